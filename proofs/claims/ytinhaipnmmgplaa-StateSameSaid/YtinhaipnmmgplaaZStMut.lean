/-
  Layer 17 (state): a copy that is being written.
-/
import Derived.Test.YtinhaipnmmgplaaZGQ
namespace Go.Proofs.Ytinhaipnmmgplaa
set_option maxRecDepth 20000
open Go.RowKit
set_option linter.unusedSimpArgs false
set_option linter.unusedVariables false
attribute [local go_sem] rowCells rowAt_drewN get_ints getE_ints set_ints size_ints rowAt_alloc rowAt_drew setRow_alloc setRow_drewN setRow_drew setCell_alloc setCell_drewN splice_upd splice_put splice_all load_vec_cut load_vecs_cut load_rights_cut load_counter store_vec store_rights store_counter eql_vec neq_vec index_vec eql_rights neq_rights eql_counter index_vecs cut_ints sub_zero
attribute [local go_sem ↓] xload_vec xstore_vec xalloc_vec xeql_vec xneq_vec xindex_vec xbuild_vec0 xload_rights xstore_rights xalloc_rights xeql_rights xneq_rights xbuild_rights0 xload_vecs xindex_vecs xload_counter xstore_counter xalloc_counter xbuild_counter0 xeql_counter xbuild_counter3
attribute [local go_sem] rowAt_setRow rowAt_setCell load_vec_cut_later load_rights_later load_counter_later Later.cell Later.frozen build3_ints
attribute [local go_sem ↓] xload_field xstore_field xalloc_field xload_lock
attribute [local go_sem] load_field load_field_later store_field load_counter_cut load_lock_cut load_lock_later Fld.size Fld.get0 Fld.get1 Fld.get2 Fld.get586 Fld.getE0 Fld.getE1 Fld.getE2 Fld.getE586 Fld.cut_cnt Fld.cut_lock Fld.cut_all Fld.splice_all strT_size

attribute [local go_sem ↓] xload_hold xstore_hold xalloc_hold
attribute [local go_sem] load_hold load_hold_later store_hold
attribute [local go_sem ↓] xbuild_lock0 xeql_lock xneq_lock xneq_counter
attribute [local go_sem] eql_lock neq_lock neq_counter

attribute [local go_sem] zero_field
attribute [local go_sem] resC_size resC_all resC_splice resC_set0 resC_set1 Fld.set2 Fld.set586
attribute [local go_sem ↓] xbuildS_field
attribute [local go_sem] buildSF_agg
attribute [local go_sem ↓] xstore_sta xload_sta xalloc_sta xbuild_sta0 xstore_bar xload_bar xalloc_bar xbuild_bar0 xstore_plan xload_plan xalloc_plan xbuild_plan0
attribute [local go_sem] load_sta load_sta_later store_sta load_bar load_bar_later store_bar load_plan load_plan_later store_plan
attribute [local go_sem] Sta.size Sta.bsize Pl.size Sta.cut_all Sta.cut_p Sta.cut_bar Sta.cut_bp Sta.bcut_all Sta.bcut_p Pl.cut_all Sta.splice_all Sta.bsplice_all Pl.splice_all Sta.splice_bar
attribute [local go_sem] Sta.get0 Sta.getE0 Sta.set0 Sta.get1 Sta.getE1 Sta.set1 Sta.get2 Sta.getE2 Sta.set2 Sta.get3 Sta.getE3 Sta.set3 Sta.get4 Sta.getE4 Sta.set4 Sta.get5 Sta.getE5 Sta.set5 Sta.get6 Sta.getE6 Sta.set6 Sta.get7 Sta.getE7 Sta.set7 Sta.get8 Sta.getE8 Sta.set8 Sta.get9 Sta.getE9 Sta.set9 Sta.get10 Sta.getE10 Sta.set10 Sta.get11 Sta.getE11 Sta.set11 Sta.get12 Sta.getE12 Sta.set12 Sta.get13 Sta.getE13 Sta.set13 Sta.get14 Sta.getE14 Sta.set14 Sta.get15 Sta.getE15 Sta.set15 Sta.get16 Sta.getE16 Sta.set16 Sta.get17 Sta.getE17 Sta.set17 Sta.get18 Sta.getE18 Sta.set18 Sta.get19 Sta.getE19 Sta.set19 Sta.get20 Sta.getE20 Sta.set20 Sta.get21 Sta.getE21 Sta.set21 Sta.get22 Sta.getE22 Sta.set22 Sta.get23 Sta.getE23 Sta.set23 Sta.get24 Sta.getE24 Sta.set24
attribute [local go_sem] Sta.bget0 Sta.bgetE0 Sta.bget1 Sta.bgetE1 Sta.bget2 Sta.bgetE2 Sta.bget3 Sta.bgetE3 Sta.bget4 Sta.bgetE4 Sta.bget5 Sta.bgetE5 Sta.bget6 Sta.bgetE6 Sta.bget7 Sta.bgetE7 Sta.bget8 Sta.bgetE8 Sta.bget9 Sta.bgetE9 Sta.bget10 Sta.bgetE10 Sta.bget11 Sta.bgetE11 Sta.bget12 Sta.bgetE12 Sta.bget13 Sta.bgetE13 Pl.get0 Pl.getE0 Pl.get1 Pl.getE1 Pl.get2 Pl.getE2 Pl.get3 Pl.getE3 Pl.get4 Pl.getE4

theorem set_int {cs : Array Value} {m j : Nat} {v v' : Int} (h : cs[m]? = some (.int .i64 v)) : ∃ u, (cs.setIfInBounds j (.int .i64 v'))[m]? = some (.int .i64 u) := by
  rw [Array.getElem?_setIfInBounds]
  by_cases e : j = m
  · subst e
    have hlt : j < cs.size := (Array.getElem?_eq_some_iff.1 h).1
    rw [if_pos rfl, if_pos hlt]
    exact ⟨_, rfl⟩
  · rw [if_neg e]; exact ⟨_, h⟩
/-- A copy whose fields and holds are being written: they lie from base on. -/
structure Mut (w0 w : World) (q : Nat) (t : Sta) : Prop where
  bel : Below w0.heap.size w0 w
  low : w0.heap.size ≤ q
  row : rowAt w q = some (t.cells, 28)
  fr : ∀ i, i < t.f.n → ∃ g cs v, t.f.A = some ⟨g, 0, none⟩ ∧ w0.heap.size ≤ g ∧ rowAt w g = some (cs, 51) ∧ cs[i * 587 + 2]? = some (.int .i64 v) ∧ cs[i * 587 + 586]? = some (.slice (t.f.l i).hA (t.f.l i).hn (t.f.l i).hc)
  hr : ∀ i, i < t.f.n → ∀ k, k < (t.f.l i).hn → ∃ b o cs v, (t.f.l i).hA = some ⟨b, o, none⟩ ∧ w0.heap.size ≤ b ∧ rowAt w b = some (cs, 53) ∧ cs[o + k * 5 + 2]? = some (.int .i64 v)
theorem Mut.start {w0 w : World} {s t : Sta} (h : CopyOf w w0.heap.size s t) (hb : Below w0.heap.size w0 w) : Mut w0 (w.alloc (.cells t.cells 28)) w.heap.size t := by
  obtain ⟨A1, c1, H1, A2, c2, H2, A3, c3, H3, rfl, h1, h2, h3⟩ := h
  refine ⟨below_allocS hb _, hb.size, rowAt_alloc_at _ _ _ _ rfl, fun i hi => ?_, fun i hi k hk => ?_⟩
  · have hi : i < s.f.n := hi
    rcases h1.rf.own.2 with ⟨e, h0⟩ | ⟨g, cap, cur, e, hbg, hg, hn, hc, hs, ht⟩
    · omega
    · injection e with e1 e2 e3
      have hrow : rowAt w g = some (cur, 51) := rowAt_iff.2 hg
      have hget : ∀ j, j < 587 → cur[i * 587 + j]? = (reF s.f.l H1 i).cells[j]? := fun j hj => by
        have := fldV_get s.f.l H1 s.f.n i j hi hj
        rw [← ht, List.getElem?_take, if_pos (by have := Nat.mul_le_mul_right 587 hi; omega), Array.getElem?_toList] at this
        exact this
      exact ⟨g, cur, (reF s.f.l H1 i).epoch, e1, hbg, rowPast hrow, (hget 2 (by decide)).trans (Fld.get2 _), (hget 586 (by decide)).trans (Fld.get586 _)⟩
  · have hi : i < s.f.n := hi
    have hk : k < (reF s.f.l H1 i).hn := hk
    obtain ⟨hok, hht⟩ := h1.rf.ok i hi
    obtain ⟨b, o, e, hc⟩ := hok.holds (5 * k + 2) (by omega)
    obtain ⟨cs, hr⟩ := hht _ e
    refine ⟨b, o, cs, (reF s.f.l H1 i).hs (5 * k + 2), e, h1.low i hi _ e, rowPast hr, ?_⟩
    rw [cell_of_rowAt hr] at hc
    rw [show o + k * 5 + 2 = o + (5 * k + 2) by omega]
    exact hc
theorem Mut.set {w0 w : World} {q p j : Nat} {t : Sta} {v' : Int} {cs0 : Array Value} {T : TypeId} (h : Mut w0 w q t) (hp : rowAt w p = some (cs0, T)) (hlow : w0.heap.size ≤ p)
    (hT : (T = 51 ∧ ∃ i, j = i * 587 + 2) ∨ T = 53) : Mut w0 (w.setCell ⟨p, j, none⟩ (.int .i64 v')) q t := by
  have hne : ∀ {g : Nat} {cs : Array Value} {T' : TypeId}, rowAt w g = some (cs, T') → T' ≠ T → g ≠ p := fun hg hn e => by
    subst e
    rw [hg] at hp
    injection hp with hp
    injection hp with _ hp
    exact hn hp
  refine ⟨below_setCell' h.bel hlow, h.low, ?_, fun i hi => ?_, fun i hi k hk => ?_⟩
  · rw [rowAt_setCell_other _ _ _ _ (hne h.row (by rcases hT with ⟨rfl, _⟩ | rfl <;> decide))]
    exact h.row
  · obtain ⟨g, cs, v, e, hl, hr, h1, h2⟩ := h.fr i hi
    rcases hT with ⟨rfl, i0, rfl⟩ | rfl
    · by_cases hg : g = p
      · subst hg
        rw [hr] at hp
        obtain ⟨u, hu⟩ := set_int (j := i0 * 587 + 2) (v' := v') h1
        refine ⟨g, _, u, e, hl, rowAt_setCell_same _ _ hr, hu, ?_⟩
        rw [Array.getElem?_setIfInBounds, if_neg (by omega)]
        exact h2
      · exact ⟨g, cs, v, e, hl, by rw [rowAt_setCell_other _ _ _ _ hg]; exact hr, h1, h2⟩
    · exact ⟨g, cs, v, e, hl, by rw [rowAt_setCell_other _ _ _ _ (hne hr (by decide))]; exact hr, h1, h2⟩
  · obtain ⟨b, o, cs, v, e, hl, hr, h1⟩ := h.hr i hi k hk
    rcases hT with ⟨rfl, i0, rfl⟩ | rfl
    · exact ⟨b, o, cs, v, e, hl, by rw [rowAt_setCell_other _ _ _ _ (hne hr (by decide))]; exact hr, h1⟩
    · by_cases hg : b = p
      · subst hg
        obtain ⟨u, hu⟩ := set_int (j := j) (v' := v') h1
        exact ⟨b, o, _, u, e, hl, rowAt_setCell_same _ _ hr, hu⟩
      · exact ⟨b, o, cs, v, e, hl, by rw [rowAt_setCell_other _ _ _ _ hg]; exact hr, h1⟩
end Go.Proofs.Ytinhaipnmmgplaa
