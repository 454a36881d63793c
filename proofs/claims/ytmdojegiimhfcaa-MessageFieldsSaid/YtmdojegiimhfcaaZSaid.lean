/-
  Layer 14 (message): what a format leaves of fields.
-/
import Derived.Test.YtmdojegiimhfcaaZDown
namespace Go.Proofs.Ytmdojegiimhfcaa
set_option maxRecDepth 20000
open Go.RowKit
set_option linter.unusedSimpArgs false
set_option linter.unusedVariables false
attribute [local go_sem] rowCells rowAt_drewN get_ints getE_ints set_ints size_ints rowAt_alloc rowAt_drew setRow_alloc setRow_drewN setRow_drew setCell_alloc setCell_drewN splice_upd splice_put splice_all load_vec_cut load_vecs_cut load_rights_cut load_counter store_vec store_rights store_counter eql_vec neq_vec index_vec eql_rights neq_rights eql_counter index_vecs cut_ints sub_zero
attribute [local go_sem ↓] xload_vec xstore_vec xalloc_vec xeql_vec xneq_vec xindex_vec xbuild_vec0 xload_rights xstore_rights xalloc_rights xeql_rights xneq_rights xbuild_rights0 xload_vecs xindex_vecs xload_counter xstore_counter xalloc_counter xbuild_counter0 xeql_counter xbuild_counter3
attribute [local go_sem] rowAt_setRow rowAt_setCell load_vec_cut_later load_rights_later load_counter_later Later.cell Later.frozen build3_ints
attribute [local go_sem ↓] xload_field xstore_field xalloc_field xload_lock
attribute [local go_sem] load_field load_field_later store_field load_counter_cut load_lock_cut load_lock_later Fld.size Fld.get0 Fld.get1 Fld.get2 Fld.get586 Fld.getE0 Fld.getE1 Fld.getE2 Fld.getE586 Fld.cut_cnt Fld.cut_lock Fld.cut_all Fld.splice_all strT_size

attribute [local go_sem ↓] xload_hold xstore_hold xalloc_hold
attribute [local go_sem] load_hold load_hold_later store_hold
attribute [local go_sem ↓] xbuild_lock0 xeql_lock xneq_lock xneq_counter
attribute [local go_sem] eql_lock neq_lock neq_counter

attribute [local go_sem] zero_field
attribute [local go_sem ↓] xstore_res xload_res xalloc_res xbuild_res0
attribute [local go_sem] load_res store_res resC_size resC_all resC_splice resC_set0 resC_set1 Fld.set2 Fld.set586
attribute [local go_sem ↓] xbuildS_field
attribute [local go_sem] buildSF_agg
theorem resC_getE0 (e : Int) (B : Option Addr) (k d : Nat) (h : 0 < (resC e B k d).size) : (resC e B k d)[0] = .int .i64 e := getE_cellsF _ _ _ h
theorem resC_get0 (e : Int) (B : Option Addr) (k d : Nat) : (resC e B k d)[0]? = some (.int .i64 e) := get_cellsF _ _ _ (by decide)
attribute [local go_sem] resC_getE0 resC_get0
/-- Is a field said at all? -/
def keepB (v : Int) (F : Fld) : Bool := rightF F && isV v && (decide (3 ≤ v) || decide (F.epoch = 0))
/-- What is said of it. -/
def sF (v : Int) (F : Fld) : Fld := if v = 1 then { F with hA := none, hn := 0, hc := 0 } else F
def saidL (v : Int) (L : Nat → Fld) : Nat → List Fld
  | 0 => []
  | k + 1 => if keepB v (L k) = true then saidL v L k ++ [sF v (L k)] else saidL v L k
theorem saidL_len (v : Int) (L : Nat → Fld) : ∀ k, (saidL v L k).length ≤ k
  | 0 => Nat.le_refl _
  | k + 1 => by
    have := saidL_len v L k
    unfold saidL
    split
    · simp; omega
    · omega
theorem dnF_sF {v : Int} {F : Fld} (A : Option Addr) (c : Nat) (h : (if v < 3 then F.epoch else 0) = 0) : dnF v F A c = { sF v F with hA := if v = 1 then none else A, hc := if v = 1 then 0 else c } := by
  unfold dnF sF
  by_cases h1 : v = 1
  · subst h1
    have : F.epoch = 0 := h
    simp [this]
  · by_cases h3 : v < 3
    · rw [if_pos h3] at h
      simp [h1, h]
    · simp [h1, h3]
theorem keep_of {v : Int} {F : Fld} (h1 : (rightF F && isV v) = true) (h : (if v < 3 then F.epoch else 0) = 0) : keepB v F = true := by
  unfold keepB
  rw [h1]
  by_cases h3 : v < 3
  · rw [if_pos h3] at h; simp [h]
  · simp; omega
theorem keep_not {v : Int} {F : Fld} (h : (if v < 3 then F.epoch else 0) ≠ 0) : keepB v F = false := by
  unfold keepB
  by_cases h3 : v < 3
  · rw [if_pos h3] at h; simp [h]; omega
  · rw [if_neg h3] at h; exact absurd rfl h
def gl (l : List Fld) (i : Nat) : Fld := l.getD i fld0
theorem gl_left (l : List Fld) (S : Fld) {i : Nat} (h : i < l.length) : gl (l ++ [S]) i = gl l i := by unfold gl; simp [List.getD, List.getElem?_append_left h]
theorem gl_last (l : List Fld) (S : Fld) : gl (l ++ [S]) l.length = S := by unfold gl; simp [List.getD]
theorem fldV_congr2 {L M : Nat → Fld} {H G : Nat → Option Addr × Nat} : ∀ k, (∀ i, i < k → reF L H i = reF M G i) → fldV L H k = fldV M G k
  | 0, _ => rfl
  | k + 1, h => by rw [fldV, fldV, fldV_congr2 k fun i hi => h i (by omega), h k (by omega)]
/-- A row of fields of the call's own, the holds of which lie in blocks of holds or in what there was. -/
structure RS (w0 w : World) (B : Nat) (l : List Fld) (A : Option Addr) (c : Nat) (H : Nat → Option Addr × Nat) : Prop where
  own : w.ownsRow B 50 587 (.slice A l.length c) l.length (fldV (gl l) H l.length)
  ok : ∀ i, i < l.length → FldOk w (reF (gl l) H i) ∧ (HT w (reF (gl l) H i) ∨ FldOk w0 (reF (gl l) H i))
theorem fld_step {w0 w w' : World} {F : Fld} (hk : KeepH w w') (hb : Below w0.heap.size w0 w') (h : FldOk w F ∧ (HT w F ∨ FldOk w0 F)) : FldOk w' F ∧ (HT w' F ∨ FldOk w0 F) := by
  rcases h with ⟨h1, h2 | h2⟩
  · exact ⟨(hk.fld h1 h2).1, .inl (hk.fld h1 h2).2⟩
  · exact ⟨h2.below hb, .inr h2⟩
theorem RS.nil (w0 w : World) (B : Nat) : RS w0 w B [] none 0 fun _ => (none, 0) := ⟨own_nil _ _ _ _, fun i hi => by simp at hi⟩
theorem RS.below {w0 w w' : World} {B : Nat} {l : List Fld} {A : Option Addr} {c : Nat} {H : Nat → Option Addr × Nat} (h : RS w0 w B l A c H) (hb : Below w.heap.size w w') (h0 : Below w0.heap.size w0 w') : RS w0 w' B l A c H :=
  ⟨own_below h.own hb, fun i hi => fld_step (KeepH.below hb) h0 (h.ok i hi)⟩
theorem RS.push {w0 w w' : World} {B : Nat} {l : List Fld} {A : Option Addr} {c : Nat} {H : Nat → Option Addr × Nat} (h : RS w0 w B l A c H) {S F' : Fld} {A9 : Option Addr} {c9 : Nat} (hF : { S with hA := A9, hc := c9 } = F') {v' : Value}
    (hown : w'.ownsRow B 50 587 v' (l.length + 1) (fldV (gl l) H l.length ++ F'.cells.toList)) (hk : KeepH w w') (h0 : Below w0.heap.size w0 w') (hok : FldOk w' F' ∧ (HT w' F' ∨ FldOk w0 F')) :
    ∃ a d H', v' = .slice a (l ++ [S]).length d ∧ RS w0 w' B (l ++ [S]) a d H' := by
  obtain ⟨H', hH1, hH2⟩ : ∃ H' : Nat → Option Addr × Nat, (∀ i, i < l.length → H i = H' i) ∧ H' l.length = (A9, c9) := ⟨fun i => if i < l.length then H i else (A9, c9), fun i hi => by simp [hi], by simp⟩
  have e1 : ∀ i, i < l.length → reF (gl (l ++ [S])) H' i = reF (gl l) H i := fun i hi => by unfold reF; rw [gl_left l S hi, hH1 i hi]
  have e2 : reF (gl (l ++ [S])) H' l.length = F' := by unfold reF; rw [gl_last, hH2, ← hF]
  have el : (l ++ [S]).length = l.length + 1 := by simp
  rw [show fldV (gl l) H l.length ++ F'.cells.toList = fldV (gl (l ++ [S])) H' (l ++ [S]).length by rw [el, fldV, e2, fldV_congr2 l.length fun i hi => e1 i hi], ← el] at hown
  obtain ⟨a, d, rfl, -, -, -, -, -⟩ := own_open hown (by decide)
  refine ⟨a, d, H', rfl, hown, fun i hi => ?_⟩
  rw [el] at hi
  by_cases hil : i = l.length
  · subst hil
    rw [e2]
    exact hok
  · rw [e1 i (by omega)]
    exact fld_step hk h0 (h.ok i (by omega))
theorem RS.is {w0 w : World} {B : Nat} {l : List Fld} {A : Option Addr} {c : Nat} {H : Nat → Option Addr × Nat} (h : RS w0 w B l A c H) : FldsIs w A l.length (reF (gl l) H) ∧ l.length ≤ c ∧ (A = none → c = 0) ∧ c ≤ 9223372036854775807 := by
  obtain ⟨a, cap, e, hn, hle, hm, hb, hc⟩ := own_open h.own (by decide)
  injection e with e1 _ e3
  subst e1 e3
  refine ⟨⟨fun i hi => ?_, fun i hi => (h.ok i hi).1⟩, hle, fun h => (hn h).1, hm⟩
  have key : ∀ j, j < 587 → ∃ g, A = some ⟨g, 0, none⟩ ∧ w.cell? ⟨g, i * 587 + j, none⟩ = (reF (gl l) H i).cells[j]? := fun j hj => by
    have hs : (reF (gl l) H i).cells[j]? = some ((reF (gl l) H i).cells[j]'(by rw [Fld.size]; exact hj)) := Array.getElem?_eq_getElem _
    obtain ⟨g, e1, e2⟩ := hc _ _ ((fldV_get (gl l) H l.length i j hi hj).trans hs)
    exact ⟨g, e1, e2.trans hs.symm⟩
  obtain ⟨g, hg, _⟩ := key 0 (by decide)
  refine ⟨g, 0, hg, fun j hj => ?_⟩
  obtain ⟨g', hg', h2⟩ := key j hj
  rw [hg] at hg'
  injection hg' with hg'
  injection hg' with hg'
  subst hg'
  rw [Nat.zero_add]
  exact h2
set_option maxHeartbeats 4000000 in
theorem msaid_ok (v : Int) (A : Option Addr) (n c : Nat) (L : Nat → Fld) (w : World) (h : FldsIs w A n L) (hn : n ≤ 100) :
    Calls Try.prog 16 #[.int .i64 v, .slice A n c] w fun e w' => ∃ A' c' H, e = .returned (.slice A' (saidL v L n).length c') ∧ RS w w' w.heap.size (saidL v L n) A' c' H ∧ Below w.heap.size w w' := by
  have HF := Lib.hid h
  clear h
  go_enter Try.func16, Try.ntmps16
  go_wp2_with fail
  go_loopw [5, 13] (fun u i w' => ∃ (k : Nat) (A' : Option Addr) (c' : Nat) (H : Nat → Option Addr × Nat), k ≤ n ∧ i = .int .i64 k ∧ u = .slice A' (saidL v L k).length c' ∧ RS w w' w.heap.size (saidL v L k) A' c' H ∧ Below w.heap.size w w') (fun _ i _ => n - (intOf i).toNat)
  case atStart => exact ⟨0, none, 0, fun _ => (none, 0), Nat.zero_le _, rfl, rfl, RS.nil _ _ _, Below.refl _ _⟩
  case round =>
    rename World => wr
    obtain ⟨k, A', c', H, hk, rfl, rfl, hrs, hb⟩ := hrel
    have HRS := Lib.hid hrs
    have HB := Lib.hid hb
    have hlen := saidL_len v L k
    by_cases hlt : k < n
    · obtain ⟨b, o, hA, hlb, hnm, hl⟩ := (HF.out.below hb).at_ hlt
      have hl1 := hl wr (Below.refl _ _)
      have HK := Lib.hid ((HF.out.below hb).ok k hlt)
      obtain ⟨F, hF⟩ : ∃ F, L k = F := ⟨_, rfl⟩
      rw [hF] at hl1 HK
      rw [hA]
      have HSL : Hid (saidL v L (k + 1) = if keepB v F = true then saidL v L k ++ [sF v F] else saidL v L k) := Lib.hid (by rw [← hF]; rfl)
      clear hl hb hA hrs hnm hF
      obtain ⟨l, hll⟩ : ∃ l, saidL v L k = l := ⟨_, rfl⟩
      rw [hll] at HRS HSL hlen ⊢
      clear hll
      go_wp2_with fail
      have hal : Below wr.heap.size wr (wr.alloc (.cells F.cells 50)) := (Below.refl _ _).alloc (Nat.le_refl _) _
      refine (down_ok v F _ (HK.out.below hal)).mono ?_
      rintro x w4 ⟨hb4, hno, hyes⟩
      have hb4 := bthen hal hb4
      have HB4 := Lib.hid (bthen HB.out hb4)
      have HRS4 := Lib.hid (HRS.out.below hb4 HB4.out)
      have HAL : Hid (∀ o1 o2, Below w4.heap.size w4 ((w4.alloc o1).alloc o2)) := Lib.hid (fun o1 o2 => below_allocS ((Below.refl _ _).alloc (Nat.le_refl _) _) _)
      clear HRS HB hl1 HK hal
      obtain ⟨q, hq⟩ : ∃ q, (rightF F && isV v) = q := ⟨_, rfl⟩
      rw [hq] at hno hyes
      cases q
      · obtain ⟨x, rfl, hx⟩ := hno rfl
        have hx' : decide (x = 0) = false := decide_eq_false hx
        have hkb : keepB v F = false := by unfold keepB; rw [hq]; rfl
        have hsl := HSL.out
        rw [if_neg (by rw [hkb]; decide)] at hsl
        have HSL := Lib.hid hsl
        clear hno hyes hsl hb4 hq hkb
        go_wp2_with fail
        go_roundw
        case rel => exact ⟨k + 1, A', c', H, by omega, by go_num, by rw [HSL.out], by rw [HSL.out]; exact HRS4.out.below (HAL.out _ _) (bthen HB4.out (HAL.out _ _)), bthen HB4.out (HAL.out _ _)⟩
        case measure => simp [intOf]; omega
      · obtain ⟨A9, c9, B9, k9, d9, rfl, hok, hht⟩ := hyes rfl
        have HOK := Lib.hid hok
        have HHT := Lib.hid hht
        obtain ⟨E, hE⟩ : ∃ E, (if v < 3 then F.epoch else 0) = E := ⟨_, rfl⟩
        rw [hE]
        by_cases h0 : E = 0
        · subst h0
          have hsl := HSL.out
          rw [if_pos (keep_of hq hE)] at hsl
          have HSL := Lib.hid hsl
          have HFF := Lib.hid (dnF_sF A9 c9 hE).symm
          obtain ⟨F', hF'⟩ : ∃ F', dnF v F A9 c9 = F' := ⟨_, rfl⟩
          rw [hF'] at HOK HHT HFF ⊢
          clear hno hyes hsl hb4 hq hE hok hht hF'
          have hws := HB4.out.size
          go_wp2_with (at_builtin; refine wl_append_rows2 Try.underlying22 info_field fld0.size (by decide) rfl _ _ rfl rfl (own_alloc (own_alloc (own_alloc HRS4.out.own _) _) _) _ 1 1 F'.cells.toList rfl ?c1 (fun h => by cases h) ?c2 ?c3 ?c4 ?c5 ?c6 ?_)
          case c1 => rw [Array.length_toList, F'.size]
          case c2 => intro j u hu; exact ⟨w4.heap.size + 1 + 1, 0, rfl, by rw [Nat.zero_add, cell_of_rowAt (rowAt_alloc_at _ _ _ _ (by simp)), ← hu]; simp⟩
          case c3 => exact fun u hu => (Array.all_eq_true_iff_forall_mem.1 F'.one) u (by simpa using hu)
          case c4 => omega
          case c5 => omega
          case c6 => simp; omega
          intro v' w7 hown hb hgr
          have hal3 : Below w4.heap.size w4 (((w4.alloc (.cells F'.cells 50)).alloc (.cells (resC 0 B9 k9 d9) 77)).alloc (.cells F'.cells 50)) := below_allocS (HAL.out _ _) _
          have hkp := (KeepH.below hal3).trans (KeepH.grown (own_alloc (own_alloc (own_alloc HRS4.out.own _) _) _) hgr (by decide))
          have h07 := (bthen HB4.out hal3).trans hb
          obtain ⟨a7, d7, H7, rfl, hrs7⟩ := HRS4.out.push HFF.out hown hkp h07 ⟨(hkp.fld HOK.out HHT.out).1, .inl (hkp.fld HOK.out HHT.out).2⟩
          have HRS7 := Lib.hid hrs7
          have HB7 := Lib.hid h07
          clear hown hb hgr hal3 hkp h07 hrs7 HRS4 HB4 HOK HHT HFF
          go_wp2_with fail
          go_roundw
          case rel => exact ⟨k + 1, a7, d7, H7, by omega, by go_num, by rw [HSL.out], by rw [HSL.out]; exact HRS7.out, HB7.out⟩
          case measure => simp [intOf]; omega
        · have hx' : decide (E = 0) = false := decide_eq_false h0
          have hsl := HSL.out
          rw [if_neg (by rw [keep_not (by rw [hE]; exact h0)]; decide)] at hsl
          have HSL := Lib.hid hsl
          clear hno hyes hsl hb4 hq hE hok hht HOK HHT
          go_wp2_with fail
          go_roundw
          case rel => exact ⟨k + 1, A', c', H, by omega, by go_num, by rw [HSL.out], by rw [HSL.out]; exact HRS4.out.below (HAL.out _ _) (bthen HB4.out (HAL.out _ _)), bthen HB4.out (HAL.out _ _)⟩
          case measure => simp [intOf]; omega
    · obtain rfl : k = n := by omega
      clear hrs hb
      go_wp2_with fail
      go_ret
      exact ⟨A', c', H, rfl, HRS.out, HB.out⟩
end Go.Proofs.Ytmdojegiimhfcaa
