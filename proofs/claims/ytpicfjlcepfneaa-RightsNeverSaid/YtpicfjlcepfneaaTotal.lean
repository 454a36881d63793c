/-
  Layer 3 (rights): Total; the reference's.
-/
import Derived.Test.YtpicfjlcepfneaaRFree
import Derived.Test.YtpicfjlcepfneaaHeld
import Derived.Deep.Cut
namespace Go.Proofs.Ytpicfjlcepfneaa
open Go.RowKit
set_option linter.unusedSimpArgs false
attribute [local go_sem] rowCells rowAt_drewN get_ints getE_ints set_ints size_ints rowAt_alloc rowAt_drew setRow_alloc setRow_drewN setRow_drew setCell_alloc setCell_drewN splice_upd splice_all load_vec_cut load_vecs_cut load_rights_cut store_vec store_rights eql_vec neq_vec index_vec eql_rights neq_rights index_vecs cut_ints sub_zero
attribute [local go_sem ↓] xload_vec xstore_vec xalloc_vec xeql_vec xneq_vec xindex_vec xbuild_vec0 xload_rights xstore_rights xalloc_rights xeql_rights xneq_rights xbuild_rights0 xload_vecs xindex_vecs
attribute [local go_sem] rowAt_setRow rowAt_setCell load_vec_cut_later load_rights_later Later.cell Later.frozen
attribute [local go_sem] rn_true rn_false re_true re_false eqI_self

/-- All that is summed. -/
def totalL (r : Nat → Int) : List Int := (List.range 16).map r ++ lessL 16 (sub 16 r)
def totalN (r : Nat → Int) : Int := sumN (totalL r)
def totalE (r : Nat → Int) : Int := sumE (totalL r)
theorem wp_append_ints {o : Oper} {a : Act} {w : World} {K : Act → World → Prop} {Q : Exit → Act → World → Prop} (s x : Operand)
    (ho : o.op = .call { callee := .builtin .append, args := #[s, x], argTypes := #[54, 54] }) (base : Nat) (v : Value) (xs ys : List Int) (A : Addr) (c : Nat)
    (hown : OwnI w base v xs) (hy : IsInts w (some A) ys) (hs : a.eval s = v) (hx : a.eval x = .slice (some A) ys.length c) (hlen : xs.length + ys.length ≤ 17592186044416) (hbase : base ≤ w.heap.size)
    (h : ∀ v' w', OwnI w' base v' (xs ++ ys) → w.grownBy w' v.ownBlock → K (a.put o.dst v') w') : o.wp Try.prog a w K Q := by
  obtain ⟨i0, hi, hz0, hz1, hz2⟩ := info_int
  refine wp_append_own w s x _ ho base 3 i0 (.int .i64 0) 1 8 Try.underlying54 hi hz0 hz1 hz2 rfl (by decide) v _ _ hs hown A ys.length c (ys.map (Value.int .i64)) hx (by simp) ?_ ?_ (by unfold maxLen; omega) (by omega) hbase ?_
  · intro j u hu
    have hj : j < ys.length := by
      have := (List.getElem?_eq_some_iff.1 hu).1
      simpa using this
    obtain ⟨b, off, h1, h2⟩ := hy j hj
    injection h1 with h1
    subst h1
    rw [Addr.add_lit, h2]
    simp [List.getElem?_map, List.getElem?_eq_getElem hj] at hu
    simp [List.getD, List.getElem?_eq_getElem hj, hu]
  · intro u hu
    obtain ⟨y, _, rfl⟩ := List.mem_map.1 hu
    rfl
  · intro v' w' h1 h2 _
    exact h v' w' (by unfold OwnI; rw [List.length_append, List.map_append]; exact h1) h2
theorem IsInts.grown {w w' : World} {g o : Nat} {l : List Int} {row : Option Nat} (h : IsInts w (some ⟨g, o, none⟩) l) (hg : w.grownBy w' row) (hne : some g ≠ row) : IsInts w' (some ⟨g, o, none⟩) l := by
  intro i hi
  obtain ⟨b, q, h1, h2⟩ := h i hi
  injection h1 with h1
  injection h1 with h1 h3
  subst h1 h3
  exact ⟨_, _, rfl, (World.cell?_of_block (hg.block _ (World.block_lt_of_cell? _ _ h2) hne)).trans h2⟩
/-- What a slice of one's own, not empty, leads to. -/
theorem OwnI.addr {w : World} {base : Nat} {v : Value} {xs : List Int} (h : OwnI w base v xs) (hx : xs ≠ []) : ∃ g cap, v = .slice (some ⟨g, 0, none⟩) xs.length cap ∧ base ≤ g ∧ g < w.heap.size ∧ IsInts w (some ⟨g, 0, none⟩) xs := by
  obtain ⟨a, cap, hv, hi, _⟩ := h.isInts
  rcases h.2 with ⟨_, hn⟩ | ⟨g, cap', cur, hv', hbg, hg, _⟩
  · exact absurd (List.eq_nil_of_length_eq_zero hn) hx
  · have := hv.symm.trans hv'
    injection this with h1 h2 h3
    subst h1
    exact ⟨g, cap, hv, hbg, (Array.getElem?_eq_some_iff.1 hg).1, hi⟩
set_option maxHeartbeats 2000000 in
theorem total_any (r : Nat → Int) (w : World) : Calls Try.prog 20 #[.agg (ints 288 r)] w fun e w' => e = .returned (.tuple #[.int .i64 (totalN r), .int .i64 (totalE r)]) ∧ Below w.heap.size w w' := by
  go_enter Try.func20, Try.ntmps20
  go_upto_region 1 with fail
  have r1 : rowAt (w.alloc (.cells (ints 288 r) 26)) w.heap.size = some (ints 288 r, 26) := rowAt_alloc_at _ _ _ _ rfl
  have hb0 : Below w.heap.size w (w.alloc (.cells (ints 288 r) 26)) := (Below.refl _ _).alloc (Nat.le_refl _) _
  generalize w.alloc (.cells (ints 288 r) 26) = W at *
  refine wp_region_held_drew (S := fun w' : World => rowAt w' w.heap.size = some (ints 288 r, 26) ∧ Hid (Below w.heap.size w w')) (by kernel_rfl) ⟨r1, Lib.hid hb0.drew⟩ (fun hS => ?_)
  clear r1 hb0
  generalize W.drew = W1 at *
  repeat (first | (refine held_take (i := 0) (by simp only [List.getElem?_toArray, List.getElem?_cons_succ, List.getElem?_cons_zero]; rfl) (by decide +kernel) (by decide +kernel) (by decide +kernel) (by exact fun _ _ _ _ h => h) hS (by rfl) ?_; apply Exists.intro; refine ⟨fun w' hSw => ?_, ?_⟩; (· (obtain ⟨q1, _⟩ := hSw; go_simp; with_reducible rfl)); (try simp only [act_put, act_put_none, List.set_cons_zero, List.set_cons_succ])) | (refine held_take (i := 1) (by simp only [List.getElem?_toArray, List.getElem?_cons_succ, List.getElem?_cons_zero]; rfl) (by decide +kernel) (by decide +kernel) (by decide +kernel) (by exact fun _ _ _ _ h => h) hS (by rfl) ?_; apply Exists.intro; refine ⟨fun w' hSw => ?_, ?_⟩; (· (obtain ⟨q1, _⟩ := hSw; go_simp; with_reducible rfl)); (try simp only [act_put, act_put_none, List.set_cons_zero, List.set_cons_succ])) | (refine held_take (i := 2) (by simp only [List.getElem?_toArray, List.getElem?_cons_succ, List.getElem?_cons_zero]; rfl) (by decide +kernel) (by decide +kernel) (by decide +kernel) (by exact fun _ _ _ _ h => h) hS (by rfl) ?_; apply Exists.intro; refine ⟨fun w' hSw => ?_, ?_⟩; (· (obtain ⟨q1, _⟩ := hSw; go_simp; with_reducible rfl)); (try simp only [act_put, act_put_none, List.set_cons_zero, List.set_cons_succ])) | (refine held_take (i := 3) (by simp only [List.getElem?_toArray, List.getElem?_cons_succ, List.getElem?_cons_zero]; rfl) (by decide +kernel) (by decide +kernel) (by decide +kernel) (by exact fun _ _ _ _ h => h) hS (by rfl) ?_; apply Exists.intro; refine ⟨fun w' hSw => ?_, ?_⟩; (· (obtain ⟨q1, _⟩ := hSw; go_simp; with_reducible rfl)); (try simp only [act_put, act_put_none, List.set_cons_zero, List.set_cons_succ])) | (refine held_take (i := 4) (by simp only [List.getElem?_toArray, List.getElem?_cons_succ, List.getElem?_cons_zero]; rfl) (by decide +kernel) (by decide +kernel) (by decide +kernel) (by exact fun _ _ _ _ h => h) hS (by rfl) ?_; apply Exists.intro; refine ⟨fun w' hSw => ?_, ?_⟩; (· (obtain ⟨q1, _⟩ := hSw; go_simp; with_reducible rfl)); (try simp only [act_put, act_put_none, List.set_cons_zero, List.set_cons_succ])) | (refine held_take (i := 5) (by simp only [List.getElem?_toArray, List.getElem?_cons_succ, List.getElem?_cons_zero]; rfl) (by decide +kernel) (by decide +kernel) (by decide +kernel) (by exact fun _ _ _ _ h => h) hS (by rfl) ?_; apply Exists.intro; refine ⟨fun w' hSw => ?_, ?_⟩; (· (obtain ⟨q1, _⟩ := hSw; go_simp; with_reducible rfl)); (try simp only [act_put, act_put_none, List.set_cons_zero, List.set_cons_succ])) | (refine held_take (i := 6) (by simp only [List.getElem?_toArray, List.getElem?_cons_succ, List.getElem?_cons_zero]; rfl) (by decide +kernel) (by decide +kernel) (by decide +kernel) (by exact fun _ _ _ _ h => h) hS (by rfl) ?_; apply Exists.intro; refine ⟨fun w' hSw => ?_, ?_⟩; (· (obtain ⟨q1, _⟩ := hSw; go_simp; with_reducible rfl)); (try simp only [act_put, act_put_none, List.set_cons_zero, List.set_cons_succ])) | (refine held_take (i := 7) (by simp only [List.getElem?_toArray, List.getElem?_cons_succ, List.getElem?_cons_zero]; rfl) (by decide +kernel) (by decide +kernel) (by decide +kernel) (by exact fun _ _ _ _ h => h) hS (by rfl) ?_; apply Exists.intro; refine ⟨fun w' hSw => ?_, ?_⟩; (· (obtain ⟨q1, _⟩ := hSw; go_simp; with_reducible rfl)); (try simp only [act_put, act_put_none, List.set_cons_zero, List.set_cons_succ])) | (refine held_take (i := 8) (by simp only [List.getElem?_toArray, List.getElem?_cons_succ, List.getElem?_cons_zero]; rfl) (by decide +kernel) (by decide +kernel) (by decide +kernel) (by exact fun _ _ _ _ h => h) hS (by rfl) ?_; apply Exists.intro; refine ⟨fun w' hSw => ?_, ?_⟩; (· (obtain ⟨q1, _⟩ := hSw; go_simp; with_reducible rfl)); (try simp only [act_put, act_put_none, List.set_cons_zero, List.set_cons_succ])) | (refine held_take (i := 9) (by simp only [List.getElem?_toArray, List.getElem?_cons_succ, List.getElem?_cons_zero]; rfl) (by decide +kernel) (by decide +kernel) (by decide +kernel) (by exact fun _ _ _ _ h => h) hS (by rfl) ?_; apply Exists.intro; refine ⟨fun w' hSw => ?_, ?_⟩; (· (obtain ⟨q1, _⟩ := hSw; go_simp; with_reducible rfl)); (try simp only [act_put, act_put_none, List.set_cons_zero, List.set_cons_succ])) | (refine held_take (i := 10) (by simp only [List.getElem?_toArray, List.getElem?_cons_succ, List.getElem?_cons_zero]; rfl) (by decide +kernel) (by decide +kernel) (by decide +kernel) (by exact fun _ _ _ _ h => h) hS (by rfl) ?_; apply Exists.intro; refine ⟨fun w' hSw => ?_, ?_⟩; (· (obtain ⟨q1, _⟩ := hSw; go_simp; with_reducible rfl)); (try simp only [act_put, act_put_none, List.set_cons_zero, List.set_cons_succ])) | (refine held_take (i := 11) (by simp only [List.getElem?_toArray, List.getElem?_cons_succ, List.getElem?_cons_zero]; rfl) (by decide +kernel) (by decide +kernel) (by decide +kernel) (by exact fun _ _ _ _ h => h) hS (by rfl) ?_; apply Exists.intro; refine ⟨fun w' hSw => ?_, ?_⟩; (· (obtain ⟨q1, _⟩ := hSw; go_simp; with_reducible rfl)); (try simp only [act_put, act_put_none, List.set_cons_zero, List.set_cons_succ])) | (refine held_take (i := 12) (by simp only [List.getElem?_toArray, List.getElem?_cons_succ, List.getElem?_cons_zero]; rfl) (by decide +kernel) (by decide +kernel) (by decide +kernel) (by exact fun _ _ _ _ h => h) hS (by rfl) ?_; apply Exists.intro; refine ⟨fun w' hSw => ?_, ?_⟩; (· (obtain ⟨q1, _⟩ := hSw; go_simp; with_reducible rfl)); (try simp only [act_put, act_put_none, List.set_cons_zero, List.set_cons_succ])))
  refine wpAnyH_ready (rs := [0]) (by decide +kernel) (by simp) ?_
  refine AllReadyH.cons (i := 0) (by simp only [List.getElem?_toArray, List.getElem?_cons_succ, List.getElem?_cons_zero]; rfl) (fun K hK => ?_) AllReadyH.nil
  go_simp
  refine hK.out _ _ ⟨rowPast hS.1, Lib.hid (below_allocS hS.2.out _)⟩ (fun hS1 => ?_)
  clear hK K
  (try simp only [act_put, act_put_none, List.set_cons_zero, List.set_cons_succ])
  have hown : OwnI (W1.alloc (.cells #[] 3)) (w.heap.size + 1) (.slice (some ⟨W1.heap.size, 0, none⟩) 0 0) [] := (OwnI.row (xs := []) (rowAt_alloc_at _ _ _ _ rfl) (by simp)).mono (rowAt_lt hS.1)
  have nq : w.heap.size + 1 ≤ W1.heap.size := rowAt_lt hS.1
  have hS := hS1
  clear hS1
  have nq2 : w.heap.size + 1 ≤ (W1.alloc (.cells #[] 3)).heap.size := by simp; omega
  generalize W1.alloc (.cells #[] 3) = W2 at *
  refine wpAnyH_ready (rs := [3]) (by decide +kernel) (by simp) ?_
  refine AllReadyH.cons (i := 3) (by simp only [List.getElem?_toArray, List.getElem?_cons_succ, List.getElem?_cons_zero]; rfl) (fun K hK => ?_) AllReadyH.nil
  rw [if_pos (by rfl)]
  refine wp_append_ints _ _ rfl (w.heap.size + 1) _ [] (lst r) ⟨w.heap.size, 0, none⟩ 16 hown (isInts_row hS.1 fun i hi => by rw [lst_len] at hi; rw [Nat.zero_add, get_ints 288 r i (by omega), lst_get r i hi]) rfl rfl (by simp [lst_len]) nq2 ?_
  intro v3 w3 hown3 hg3
  have hb3 := hown.grown nq2 hg3
  have hr3 : rowAt w3 w.heap.size = some (ints 288 r, 26) := (rowAt_below hb3 _ (by omega)).trans hS.1
  refine hK.out _ _ ⟨hr3, Lib.hid (hS.2.out.trans (hb3.mono (by omega)))⟩ (fun hS1 => ?_)
  have nq3 := Nat.le_trans nq2 hb3.size
  have hS := hS1
  clear hK K hS1 hown hg3 hb3 hr3
  (try simp only [act_put, act_put_none, List.set_cons_zero, List.set_cons_succ])
  repeat (first | (refine held_take (i := 0) (by simp only [List.getElem?_toArray, List.getElem?_cons_succ, List.getElem?_cons_zero]; rfl) (by decide +kernel) (by decide +kernel) (by decide +kernel) (by exact fun _ _ _ _ h => h) hS (by rfl) ?_; apply Exists.intro; refine ⟨fun w' hSw => ?_, ?_⟩; (· (obtain ⟨q1, _⟩ := hSw; go_simp; with_reducible rfl)); (try simp only [act_put, act_put_none, List.set_cons_zero, List.set_cons_succ])) | (refine held_take (i := 1) (by simp only [List.getElem?_toArray, List.getElem?_cons_succ, List.getElem?_cons_zero]; rfl) (by decide +kernel) (by decide +kernel) (by decide +kernel) (by exact fun _ _ _ _ h => h) hS (by rfl) ?_; apply Exists.intro; refine ⟨fun w' hSw => ?_, ?_⟩; (· (obtain ⟨q1, _⟩ := hSw; go_simp; with_reducible rfl)); (try simp only [act_put, act_put_none, List.set_cons_zero, List.set_cons_succ])) | (refine held_take (i := 2) (by simp only [List.getElem?_toArray, List.getElem?_cons_succ, List.getElem?_cons_zero]; rfl) (by decide +kernel) (by decide +kernel) (by decide +kernel) (by exact fun _ _ _ _ h => h) hS (by rfl) ?_; apply Exists.intro; refine ⟨fun w' hSw => ?_, ?_⟩; (· (obtain ⟨q1, _⟩ := hSw; go_simp; with_reducible rfl)); (try simp only [act_put, act_put_none, List.set_cons_zero, List.set_cons_succ])) | (refine held_take (i := 3) (by simp only [List.getElem?_toArray, List.getElem?_cons_succ, List.getElem?_cons_zero]; rfl) (by decide +kernel) (by decide +kernel) (by decide +kernel) (by exact fun _ _ _ _ h => h) hS (by rfl) ?_; apply Exists.intro; refine ⟨fun w' hSw => ?_, ?_⟩; (· (obtain ⟨q1, _⟩ := hSw; go_simp; with_reducible rfl)); (try simp only [act_put, act_put_none, List.set_cons_zero, List.set_cons_succ])) | (refine held_take (i := 4) (by simp only [List.getElem?_toArray, List.getElem?_cons_succ, List.getElem?_cons_zero]; rfl) (by decide +kernel) (by decide +kernel) (by decide +kernel) (by exact fun _ _ _ _ h => h) hS (by rfl) ?_; apply Exists.intro; refine ⟨fun w' hSw => ?_, ?_⟩; (· (obtain ⟨q1, _⟩ := hSw; go_simp; with_reducible rfl)); (try simp only [act_put, act_put_none, List.set_cons_zero, List.set_cons_succ])) | (refine held_take (i := 5) (by simp only [List.getElem?_toArray, List.getElem?_cons_succ, List.getElem?_cons_zero]; rfl) (by decide +kernel) (by decide +kernel) (by decide +kernel) (by exact fun _ _ _ _ h => h) hS (by rfl) ?_; apply Exists.intro; refine ⟨fun w' hSw => ?_, ?_⟩; (· (obtain ⟨q1, _⟩ := hSw; go_simp; with_reducible rfl)); (try simp only [act_put, act_put_none, List.set_cons_zero, List.set_cons_succ])) | (refine held_take (i := 6) (by simp only [List.getElem?_toArray, List.getElem?_cons_succ, List.getElem?_cons_zero]; rfl) (by decide +kernel) (by decide +kernel) (by decide +kernel) (by exact fun _ _ _ _ h => h) hS (by rfl) ?_; apply Exists.intro; refine ⟨fun w' hSw => ?_, ?_⟩; (· (obtain ⟨q1, _⟩ := hSw; go_simp; with_reducible rfl)); (try simp only [act_put, act_put_none, List.set_cons_zero, List.set_cons_succ])) | (refine held_take (i := 7) (by simp only [List.getElem?_toArray, List.getElem?_cons_succ, List.getElem?_cons_zero]; rfl) (by decide +kernel) (by decide +kernel) (by decide +kernel) (by exact fun _ _ _ _ h => h) hS (by rfl) ?_; apply Exists.intro; refine ⟨fun w' hSw => ?_, ?_⟩; (· (obtain ⟨q1, _⟩ := hSw; go_simp; with_reducible rfl)); (try simp only [act_put, act_put_none, List.set_cons_zero, List.set_cons_succ])) | (refine held_take (i := 8) (by simp only [List.getElem?_toArray, List.getElem?_cons_succ, List.getElem?_cons_zero]; rfl) (by decide +kernel) (by decide +kernel) (by decide +kernel) (by exact fun _ _ _ _ h => h) hS (by rfl) ?_; apply Exists.intro; refine ⟨fun w' hSw => ?_, ?_⟩; (· (obtain ⟨q1, _⟩ := hSw; go_simp; with_reducible rfl)); (try simp only [act_put, act_put_none, List.set_cons_zero, List.set_cons_succ])) | (refine held_take (i := 9) (by simp only [List.getElem?_toArray, List.getElem?_cons_succ, List.getElem?_cons_zero]; rfl) (by decide +kernel) (by decide +kernel) (by decide +kernel) (by exact fun _ _ _ _ h => h) hS (by rfl) ?_; apply Exists.intro; refine ⟨fun w' hSw => ?_, ?_⟩; (· (obtain ⟨q1, _⟩ := hSw; go_simp; with_reducible rfl)); (try simp only [act_put, act_put_none, List.set_cons_zero, List.set_cons_succ])) | (refine held_take (i := 10) (by simp only [List.getElem?_toArray, List.getElem?_cons_succ, List.getElem?_cons_zero]; rfl) (by decide +kernel) (by decide +kernel) (by decide +kernel) (by exact fun _ _ _ _ h => h) hS (by rfl) ?_; apply Exists.intro; refine ⟨fun w' hSw => ?_, ?_⟩; (· (obtain ⟨q1, _⟩ := hSw; go_simp; with_reducible rfl)); (try simp only [act_put, act_put_none, List.set_cons_zero, List.set_cons_succ])) | (refine held_take (i := 11) (by simp only [List.getElem?_toArray, List.getElem?_cons_succ, List.getElem?_cons_zero]; rfl) (by decide +kernel) (by decide +kernel) (by decide +kernel) (by exact fun _ _ _ _ h => h) hS (by rfl) ?_; apply Exists.intro; refine ⟨fun w' hSw => ?_, ?_⟩; (· (obtain ⟨q1, _⟩ := hSw; go_simp; with_reducible rfl)); (try simp only [act_put, act_put_none, List.set_cons_zero, List.set_cons_succ])) | (refine held_take (i := 12) (by simp only [List.getElem?_toArray, List.getElem?_cons_succ, List.getElem?_cons_zero]; rfl) (by decide +kernel) (by decide +kernel) (by decide +kernel) (by exact fun _ _ _ _ h => h) hS (by rfl) ?_; apply Exists.intro; refine ⟨fun w' hSw => ?_, ?_⟩; (· (obtain ⟨q1, _⟩ := hSw; go_simp; with_reducible rfl)); (try simp only [act_put, act_put_none, List.set_cons_zero, List.set_cons_succ])))
  refine wpAnyH_ready (rs := [6]) (by decide +kernel) (by simp) ?_
  refine AllReadyH.cons (i := 6) (by simp only [List.getElem?_toArray, List.getElem?_cons_succ, List.getElem?_cons_zero]; rfl) (fun K hK => ?_) AllReadyH.nil
  have HO3 := Lib.hid hown3
  clear hown3
  go_simp
  go_at_call 34
  refine (less_any _ _).mono ?_
  rintro e w4 ⟨v4, rfl, hown4, hb4⟩
  have HO4 := Lib.hid (HO3.out.below hb4)
  obtain ⟨g4, cap4, rfl, hg4, hl4, hi4⟩ := hown4.addr (by simp [lessL])
  have HI4 := Lib.hid hi4
  have hr4 : rowAt w4 w.heap.size = some (ints 288 r, 26) := rowKeep hb4 hS.1
  have HB4 := Lib.hid (bthen hS.2.out hb4)
  have nq4 := Nat.le_trans nq3 hb4.size
  clear hown4 hi4 hb4
  go_simp
  refine hK.out _ _ ⟨hr4, HB4⟩ (fun hS1 => ?_)
  have hS := hS1
  clear hK K hS1 hr4
  (try simp only [act_put, act_put_none, List.set_cons_zero, List.set_cons_succ])
  refine wpAnyH_ready (rs := [7]) (by decide +kernel) (by simp) ?_
  refine AllReadyH.cons (i := 7) (by simp only [List.getElem?_toArray, List.getElem?_cons_succ, List.getElem?_cons_zero]; rfl) (fun K hK => ?_) AllReadyH.nil
  rw [if_pos (by rfl)]
  refine wp_append_ints _ _ rfl (w.heap.size + 1) _ _ (lessL 16 (sub 16 r)) ⟨g4, 0, none⟩ cap4 HO4.out HI4.out rfl rfl (by simp [lst_len, lessL_len]) nq4 ?_
  intro v5 w5 hown5 hg5
  have hb5 := HO4.out.grown nq4 hg5
  have hr5 : rowAt w5 w.heap.size = some (ints 288 r, 26) := (rowAt_below hb5 _ (by omega)).trans hS.1
  refine hK.out _ _ ⟨hr5, Lib.hid (hS.2.out.trans (hb5.mono (by omega)))⟩ (fun hS1 => ?_)
  have nq5 := Nat.le_trans nq4 hb5.size
  have hS := hS1
  clear hK K hS1 hg5 hb5 hr5
  obtain ⟨g5, cap5, rfl, hg5, hl5, hi5⟩ := hown5.addr (by simp [lst, lessL])
  have HI5 := Lib.hid hi5
  clear hown5 hi5
  (try simp only [act_put, act_put_none, List.set_cons_zero, List.set_cons_succ])
  refine wpAnyH_ready (rs := [8]) (by decide +kernel) (by simp) ?_
  refine AllReadyH.cons (i := 8) (by simp only [List.getElem?_toArray, List.getElem?_cons_succ, List.getElem?_cons_zero]; rfl) (fun K hK => ?_) AllReadyH.nil
  go_simp
  go_at_call 33
  refine (sum_any _ cap5 _ _ HI5.out (by simp [lst_len, lessL_len])).mono ?_
  rintro e w6 ⟨rfl, hb6⟩
  have hr6 : rowAt w6 w.heap.size = some (ints 288 r, 26) := rowKeep hb6 hS.1
  have HB6 := Lib.hid (bthen hS.2.out hb6)
  clear hb6
  go_simp
  refine hK.out _ _ ⟨hr6, HB6⟩ (fun hS1 => ?_)
  have hS := hS1
  clear hK K hS1 hr6
  (try simp only [act_put, act_put_none, List.set_cons_zero, List.set_cons_succ])
  repeat (first | (refine held_take (i := 0) (by simp only [List.getElem?_toArray, List.getElem?_cons_succ, List.getElem?_cons_zero]; rfl) (by decide +kernel) (by decide +kernel) (by decide +kernel) (by exact fun _ _ _ _ h => h) hS (by rfl) ?_; apply Exists.intro; refine ⟨fun w' hSw => ?_, ?_⟩; (· (obtain ⟨q1, _⟩ := hSw; go_simp; with_reducible rfl)); (try simp only [act_put, act_put_none, List.set_cons_zero, List.set_cons_succ])) | (refine held_take (i := 1) (by simp only [List.getElem?_toArray, List.getElem?_cons_succ, List.getElem?_cons_zero]; rfl) (by decide +kernel) (by decide +kernel) (by decide +kernel) (by exact fun _ _ _ _ h => h) hS (by rfl) ?_; apply Exists.intro; refine ⟨fun w' hSw => ?_, ?_⟩; (· (obtain ⟨q1, _⟩ := hSw; go_simp; with_reducible rfl)); (try simp only [act_put, act_put_none, List.set_cons_zero, List.set_cons_succ])) | (refine held_take (i := 2) (by simp only [List.getElem?_toArray, List.getElem?_cons_succ, List.getElem?_cons_zero]; rfl) (by decide +kernel) (by decide +kernel) (by decide +kernel) (by exact fun _ _ _ _ h => h) hS (by rfl) ?_; apply Exists.intro; refine ⟨fun w' hSw => ?_, ?_⟩; (· (obtain ⟨q1, _⟩ := hSw; go_simp; with_reducible rfl)); (try simp only [act_put, act_put_none, List.set_cons_zero, List.set_cons_succ])) | (refine held_take (i := 3) (by simp only [List.getElem?_toArray, List.getElem?_cons_succ, List.getElem?_cons_zero]; rfl) (by decide +kernel) (by decide +kernel) (by decide +kernel) (by exact fun _ _ _ _ h => h) hS (by rfl) ?_; apply Exists.intro; refine ⟨fun w' hSw => ?_, ?_⟩; (· (obtain ⟨q1, _⟩ := hSw; go_simp; with_reducible rfl)); (try simp only [act_put, act_put_none, List.set_cons_zero, List.set_cons_succ])) | (refine held_take (i := 4) (by simp only [List.getElem?_toArray, List.getElem?_cons_succ, List.getElem?_cons_zero]; rfl) (by decide +kernel) (by decide +kernel) (by decide +kernel) (by exact fun _ _ _ _ h => h) hS (by rfl) ?_; apply Exists.intro; refine ⟨fun w' hSw => ?_, ?_⟩; (· (obtain ⟨q1, _⟩ := hSw; go_simp; with_reducible rfl)); (try simp only [act_put, act_put_none, List.set_cons_zero, List.set_cons_succ])) | (refine held_take (i := 5) (by simp only [List.getElem?_toArray, List.getElem?_cons_succ, List.getElem?_cons_zero]; rfl) (by decide +kernel) (by decide +kernel) (by decide +kernel) (by exact fun _ _ _ _ h => h) hS (by rfl) ?_; apply Exists.intro; refine ⟨fun w' hSw => ?_, ?_⟩; (· (obtain ⟨q1, _⟩ := hSw; go_simp; with_reducible rfl)); (try simp only [act_put, act_put_none, List.set_cons_zero, List.set_cons_succ])) | (refine held_take (i := 6) (by simp only [List.getElem?_toArray, List.getElem?_cons_succ, List.getElem?_cons_zero]; rfl) (by decide +kernel) (by decide +kernel) (by decide +kernel) (by exact fun _ _ _ _ h => h) hS (by rfl) ?_; apply Exists.intro; refine ⟨fun w' hSw => ?_, ?_⟩; (· (obtain ⟨q1, _⟩ := hSw; go_simp; with_reducible rfl)); (try simp only [act_put, act_put_none, List.set_cons_zero, List.set_cons_succ])) | (refine held_take (i := 7) (by simp only [List.getElem?_toArray, List.getElem?_cons_succ, List.getElem?_cons_zero]; rfl) (by decide +kernel) (by decide +kernel) (by decide +kernel) (by exact fun _ _ _ _ h => h) hS (by rfl) ?_; apply Exists.intro; refine ⟨fun w' hSw => ?_, ?_⟩; (· (obtain ⟨q1, _⟩ := hSw; go_simp; with_reducible rfl)); (try simp only [act_put, act_put_none, List.set_cons_zero, List.set_cons_succ])) | (refine held_take (i := 8) (by simp only [List.getElem?_toArray, List.getElem?_cons_succ, List.getElem?_cons_zero]; rfl) (by decide +kernel) (by decide +kernel) (by decide +kernel) (by exact fun _ _ _ _ h => h) hS (by rfl) ?_; apply Exists.intro; refine ⟨fun w' hSw => ?_, ?_⟩; (· (obtain ⟨q1, _⟩ := hSw; go_simp; with_reducible rfl)); (try simp only [act_put, act_put_none, List.set_cons_zero, List.set_cons_succ])) | (refine held_take (i := 9) (by simp only [List.getElem?_toArray, List.getElem?_cons_succ, List.getElem?_cons_zero]; rfl) (by decide +kernel) (by decide +kernel) (by decide +kernel) (by exact fun _ _ _ _ h => h) hS (by rfl) ?_; apply Exists.intro; refine ⟨fun w' hSw => ?_, ?_⟩; (· (obtain ⟨q1, _⟩ := hSw; go_simp; with_reducible rfl)); (try simp only [act_put, act_put_none, List.set_cons_zero, List.set_cons_succ])) | (refine held_take (i := 10) (by simp only [List.getElem?_toArray, List.getElem?_cons_succ, List.getElem?_cons_zero]; rfl) (by decide +kernel) (by decide +kernel) (by decide +kernel) (by exact fun _ _ _ _ h => h) hS (by rfl) ?_; apply Exists.intro; refine ⟨fun w' hSw => ?_, ?_⟩; (· (obtain ⟨q1, _⟩ := hSw; go_simp; with_reducible rfl)); (try simp only [act_put, act_put_none, List.set_cons_zero, List.set_cons_succ])) | (refine held_take (i := 11) (by simp only [List.getElem?_toArray, List.getElem?_cons_succ, List.getElem?_cons_zero]; rfl) (by decide +kernel) (by decide +kernel) (by decide +kernel) (by exact fun _ _ _ _ h => h) hS (by rfl) ?_; apply Exists.intro; refine ⟨fun w' hSw => ?_, ?_⟩; (· (obtain ⟨q1, _⟩ := hSw; go_simp; with_reducible rfl)); (try simp only [act_put, act_put_none, List.set_cons_zero, List.set_cons_succ])) | (refine held_take (i := 12) (by simp only [List.getElem?_toArray, List.getElem?_cons_succ, List.getElem?_cons_zero]; rfl) (by decide +kernel) (by decide +kernel) (by decide +kernel) (by exact fun _ _ _ _ h => h) hS (by rfl) ?_; apply Exists.intro; refine ⟨fun w' hSw => ?_, ?_⟩; (· (obtain ⟨q1, _⟩ := hSw; go_simp; with_reducible rfl)); (try simp only [act_put, act_put_none, List.set_cons_zero, List.set_cons_succ])))
  refine wpAnyH_done (by decide +kernel) ?_ _
  go_wp2_with fail
  go_ret2
  exact ⟨rfl, HB6.out⟩
theorem lst_succ (n : Nat) (r : Nat → Int) : (List.range (n + 1)).map r = (List.range n).map r ++ [r n] := by simp [List.range_succ]
set_option maxHeartbeats 2000000 in
theorem rtotal_any (r : Nat → Int) (w : World) : Calls Try.prog 21 #[.agg (ints 288 r)] w fun e w' => e = .returned (.tuple #[.int .i64 (totalN r), .int .i64 (totalE r)]) ∧ Below w.heap.size w w' := by
  go_enter Try.func21, Try.ntmps21
  go_wp2_with fail
  go_loopw [4, 5] (fun v i w' => ∃ j : Nat, j ≤ 16 ∧ i = .int .i64 j ∧ OwnI w' (w.heap.size + 1) v ((List.range j).map r) ∧ Below (w.heap.size + 1) (w.alloc (.cells (ints 288 r) 26)) w') (fun _ i _ => 16 - (intOf i).toNat)
  case atStart => exact ⟨0, by omega, rfl, OwnI.nil _ _, Below.refl _ _⟩
  case round =>
    rename_i wr
    obtain ⟨j, hj, rfl, hown, hb⟩ := hrel
    have hr : rowAt wr w.heap.size = some (ints 288 r, 26) := (rowAt_below hb _ (by omega)).trans (rowAt_alloc_at _ _ _ _ rfl)
    have HO := Lib.hid hown
    have HB := Lib.hid hb
    have hz : w.heap.size + 1 ≤ wr.heap.size := by have := hb.size; simpa using this
    clear hown hb
    by_cases hlt : j < 16
    · have hc1 : wr.cell? ⟨w.heap.size, j, none⟩ = some (.int .i64 (r j)) := by rw [cell_of_rowAt hr]; exact get_ints 288 r _ (by omega)
      go_wp2_with (at_builtin; go_loud (refine wl_append_one rfl _ _ rfl (w.heap.size + 1) _ _ _ HO.out rfl rfl (by simp) (by simp; omega) hz ?_))
      intro v' w1 hown hb
      have HO' := Lib.hid hown
      have HB' := Lib.hid (HB.out.trans hb)
      clear hown hb HO
      go_wp2
      go_roundw
      case rel => exact ⟨j + 1, by omega, by go_num, by rw [lst_succ]; exact HO'.out, HB'.out⟩
      case measure => simp [intOf]; omega
    · have hj16 : j = 16 := by omega
      have hjl : (16 : Int) ≤ (j : Int) := by omega
      clear hr
      obtain ⟨vv, hvv⟩ : ∃ vv, vv = u4 := ⟨_, rfl⟩
      subst hvv
      have ho16 := HO.out
      rw [hj16] at ho16
      have HO16 := Lib.hid ho16
      clear ho16 HO hj16
      go_wp2_with fail
      go_loopw [4, 6] (fun v i w' => ∃ j : Nat, j ≤ 16 ∧ i = .int .i64 j ∧ OwnI w' (w.heap.size + 1) v ((List.range 16).map r ++ lessL j (sub 16 r)) ∧ Below (w.heap.size + 1) (w.alloc (.cells (ints 288 r) 26)) w') (fun _ i _ => 16 - (intOf i).toNat)
      case atStart => exact ⟨0, by omega, rfl, by rw [show lessL 0 (sub 16 r) = [] from rfl, List.append_nil]; exact HO16.out, HB.out⟩
      case round =>
        rename_i wr
        obtain ⟨j, hj, rfl, hown, hb⟩ := hrel
        have hr : rowAt wr w.heap.size = some (ints 288 r, 26) := (rowAt_below hb _ (by omega)).trans (rowAt_alloc_at _ _ _ _ rfl)
        clear HO16 HB hz
        have HO := Lib.hid hown
        have HB := Lib.hid hb
        have hz : w.heap.size + 1 ≤ wr.heap.size := by have := hb.size; simpa using this
        clear hown hb
        by_cases hlt : j < 16
        · have hc1 : wr.cell? ⟨w.heap.size, 16 + j, none⟩ = some (.int .i64 (sub 16 r j)) := by rw [cell_of_rowAt hr]; exact get_ints 288 r _ (by omega)
          go_wp2_with (at_builtin; go_loud (refine wl_append_one rfl _ _ rfl (w.heap.size + 1) _ _ _ HO.out rfl rfl (by simp) (by simp [lessL_len]; omega) hz ?_))
          intro v' w1 hown hb
          have HO' := Lib.hid hown
          have HB' := Lib.hid (HB.out.trans hb)
          clear hown hb HO
          go_wp2
          go_roundw
          case rel => exact ⟨j + 1, by omega, by go_num, by rw [lessL_succ, ← List.append_assoc]; exact HO'.out, HB'.out⟩
          case measure => simp [intOf]; omega
        · obtain rfl : j = 16 := by omega
          obtain ⟨a3, cap3, rfl, hi3, hA3⟩ := HO.out.isInts
          have HI3 := Lib.hid hi3
          clear hi3 hA3 HO
          go_wp2_with fail
          refine (rsum_any a3 cap3 _ _ HI3.out (by simp [lessL_len])).mono ?_
          rintro e w4 ⟨rfl, rfl⟩
          go_wp2
          go_ret2
          exact ⟨rfl, ((Below.refl _ _).alloc (Nat.le_refl _) _).trans (HB.out.mono (by omega))⟩
end Go.Proofs.Ytpicfjlcepfneaa
