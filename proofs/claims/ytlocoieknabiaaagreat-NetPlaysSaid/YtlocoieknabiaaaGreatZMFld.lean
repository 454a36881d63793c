/-
  Layer 14 (message): the fields of a message are read.
-/
import Derived.Test.YtlocoieknabiaaaGreatZWDec
import Derived.Test.YtlocoieknabiaaaGreatZGF
namespace Go.Proofs.YtlocoieknabiaaaGreat
set_option maxRecDepth 20000
open Go.RowKit
set_option linter.unusedSimpArgs false
set_option linter.unusedVariables false
attribute [local go_sem] rowCells rowAt_drewN get_ints getE_ints set_ints size_ints rowAt_alloc rowAt_drew setRow_alloc setRow_drewN setRow_drew setCell_alloc setCell_drewN splice_upd splice_put splice_all load_vec_cut load_vecs_cut load_rights_cut load_counter store_vec store_rights store_counter eql_vec neq_vec index_vec eql_rights neq_rights eql_counter index_vecs cut_ints sub_zero
attribute [local go_sem ↓] xload_vec xstore_vec xalloc_vec xeql_vec xneq_vec xindex_vec xbuild_vec0 xload_rights xstore_rights xalloc_rights xeql_rights xneq_rights xbuild_rights0 xload_vecs xindex_vecs xload_counter xstore_counter xalloc_counter xbuild_counter0 xeql_counter xbuild_counter3
attribute [local go_sem] rowAt_setRow rowAt_setCell load_vec_cut_later load_rights_later load_counter_later Later.cell Later.frozen build3_ints
attribute [local go_sem ↓] xload_field xstore_field xalloc_field xload_lock
attribute [local go_sem] load_field load_field_later store_field load_counter_cut load_lock_cut load_lock_later Fld.size Fld.get0 Fld.get1 Fld.get2 Fld.get586 Fld.getE0 Fld.getE1 Fld.getE2 Fld.getE586 Fld.cut_cnt Fld.cut_lock Fld.cut_all Fld.splice_all strT_size

section
variable {P : Program} {w : World}
/-- One struct, laid as a slice. -/
theorem run_buildSlice_agg {T E : TypeId} {n : Nat} {Z : Array Value} (hT : P.underlying T = some (.slice E)) (hi : (P.info? E).map (fun i => (i.zero, i.size)) = some (some (.agg Z), n)) (hz : Z.size = n) (hn : 0 < n) (hn2 : n ≤ 1000) (V : Array Value) (hV : V.size = n) :
    (Instr.buildSlice T 1 #[(0, .agg V)]).run P w = .ok (.slice (some ⟨w.heap.size, 0, none⟩) 1 1) (w.alloc (.cells V E)) := by
  cases hq : P.info? E with
  | none => simp [hq] at hi
  | some i =>
    have h1 : i.size = n := by simp [hq] at hi; exact hi.2
    have h2 : i.zero = some (.agg Z) := by simp [hq] at hi; exact hi.1
    have hf : Instr.fill (fun j => some (j * n, n)) ((Array.range n).map (fun j => Z[j % Z.size]!)) [(0, .agg V)] = some V := by
      simp only [Instr.fill, Value.cells, hV, Nat.zero_mul, Nat.zero_add, Array.size_map, Array.size_range]
      rw [if_neg (by simp)]
      congr 1
      have := fold_set ((Array.range n).map (fun j => Z[j % Z.size]!)) V n (by simp) hV
      simpa [hV] using this
    have h0 : ¬ n = 0 := by omega
    have h3 : ¬ n > 2 ^ 24 := by have : (2 : Nat) ^ 24 = 16777216 := by decide
                                 omega
    unfold Instr.buildSlice
    simp only [Sem.run_bind, run_underlying hT, Result.andThen_ok, sizeOf, typeInfo, hq, h1, Nat.one_mul, show program.run P w = .ok P w from rfl, Sem.run_pure, h0, h3, if_false, zeroValue, h2, Value.cells, hf]
    rfl
end
noncomputable def buildSF (w : World) (v : Value) : Result Next := ((do pure (Next.value (← Instr.buildSlice 30 1 #[(0, v)])) : Sem Next)).run Tryz.prog w
section
variable (ρ : Operand → Value) (d : Option Tmp) (T : TypeId) (p : String) (af : Array Edge) (gd : Option (Nat × Bool)) (x : Operand) (w : World)
theorem xbuildS_field : (execOp ρ ⟨d, .buildSlice 30 1 #[(0, x)], T, p, af, gd⟩).run Tryz.prog w = buildSF w (ρ x) := by simp [execOp, buildSF]
end
theorem buildSF_agg (w : World) (F : Fld) : buildSF w (.agg F.cells) = .ok (.value (.slice (some ⟨w.heap.size, 0, none⟩) 1 1)) (w.alloc (.cells F.cells 79)) := by
  unfold buildSF
  rw [Sem.run_bind, run_buildSlice_agg (n := 587) (Z := fld0.cells) Tryz.underlying30 (by kernel_rfl) fld0.size (by decide) (by decide) F.cells F.size]
  rfl
theorem info_field : (Tryz.prog.info? 79).map (fun i => (i.zero, i.size, i.bytes)) = some (some (.agg fld0.cells), 587, 4720) := by kernel_rfl
attribute [local go_sem ↓] xbuildS_field
attribute [local go_sem] buildSF_agg
/-- The fields from k on, n of them. -/
def fldsF (v : Int) (L : Nat → Fld) : Nat → Nat → List UInt8
  | _, 0 => []
  | k, n + 1 => txtW (fldW v (L k)) ++ fldsF v L (k + 1) n
theorem fldsF_snoc (v : Int) (L : Nat → Fld) : ∀ n k, fldsF v L k (n + 1) = fldsF v L k n ++ txtW (fldW v (L (k + n)))
  | 0, k => by simp [fldsF]
  | n + 1, k => by
    rw [fldsF, fldsF_snoc v L n (k + 1), fldsF, List.append_assoc, show k + 1 + n = k + (n + 1) by omega]
theorem fldsW_F (v : Int) (L : Nat → Fld) : ∀ n, fldsW v L n = fldsF v L 0 n
  | 0 => rfl
  | n + 1 => by rw [fldsW, fldsF_snoc, fldsW_F v L n, Nat.zero_add]
theorem fldsF_left {v : Int} {L : Nat → Fld} {n k : Nat} (h : k < n) : fldsF v L k (n - k) = numB (fldW v (L k)).length ++ (fldW v (L k) ++ fldsF v L (k + 1) (n - (k + 1))) := by
  rw [show n - k = (n - (k + 1)) + 1 by omega, fldsF, txtW, List.append_assoc]
/-- A field, its holds elsewhere. -/
def reF (L : Nat → Fld) (H : Nat → Option Addr × Nat) (i : Nat) : Fld := { L i with hA := (H i).1, hc := (H i).2 }
def fldV (L : Nat → Fld) (H : Nat → Option Addr × Nat) : Nat → List Value
  | 0 => []
  | k + 1 => fldV L H k ++ (reF L H k).cells.toList
theorem fldV_len (L : Nat → Fld) (H : Nat → Option Addr × Nat) : ∀ k, (fldV L H k).length = k * 587
  | 0 => by simp [fldV]
  | k + 1 => by rw [fldV, List.length_append, fldV_len L H k, Array.length_toList, Fld.size]; omega
theorem fldV_congr {L : Nat → Fld} {H G : Nat → Option Addr × Nat} : ∀ k, (∀ i, i < k → H i = G i) → fldV L H k = fldV L G k
  | 0, _ => rfl
  | k + 1, h => by
    rw [fldV, fldV, fldV_congr k fun i hi => h i (by omega)]
    unfold reF
    rw [h k (by omega)]
theorem fldV_get (L : Nat → Fld) (H : Nat → Option Addr × Nat) : ∀ k i j, i < k → j < 587 → (fldV L H k)[i * 587 + j]? = (reF L H i).cells[j]?
  | 0, _, _, h, _ => by omega
  | k + 1, i, j, h, hj => by
    rw [fldV]
    by_cases hi : i < k
    · rw [List.getElem?_append_left (by rw [fldV_len]; have : (i + 1) * 587 ≤ k * 587 := Nat.mul_le_mul_right _ hi; omega)]
      exact fldV_get L H k i j hi hj
    · obtain rfl : i = k := by omega
      rw [List.getElem?_append_right (by rw [fldV_len]; omega), fldV_len, Nat.add_sub_cancel_left, Array.getElem?_toList]
/-- A row of fields of the call's own. -/
structure RF (w : World) (B : Nat) (L : Nat → Fld) (n : Nat) (A : Option Addr) (c : Nat) (H : Nat → Option Addr × Nat) : Prop where
  own : w.ownsRow B 79 587 (.slice A n c) n (fldV L H n)
  ok : ∀ i, i < n → FldOk w (reF L H i) ∧ HT w (reF L H i)
theorem RF.keep {w w' : World} {B : Nat} {L : Nat → Fld} {n : Nat} {A : Option Addr} {c : Nat} {H : Nat → Option Addr × Nat} (h : RF w B L n A c H) (hk : KeepH w w') (ho : w'.ownsRow B 79 587 (.slice A n c) n (fldV L H n)) : RF w' B L n A c H :=
  ⟨ho, fun i hi => hk.fld (h.ok i hi).1 (h.ok i hi).2⟩
theorem RF.below {w w' : World} {B : Nat} {L : Nat → Fld} {n : Nat} {A : Option Addr} {c : Nat} {H : Nat → Option Addr × Nat} (h : RF w B L n A c H) (hb : Below w.heap.size w w') : RF w' B L n A c H :=
  h.keep (KeepH.below hb) (own_below h.own hb)
theorem RF.is {w : World} {B : Nat} {L : Nat → Fld} {n : Nat} {A : Option Addr} {c : Nat} {H : Nat → Option Addr × Nat} (h : RF w B L n A c H) : FldsIs w A n (reF L H) ∧ n ≤ c ∧ (A = none → c = 0) ∧ c ≤ 9223372036854775807 ∧ (∀ x, A = some x → B ≤ x.block) := by
  obtain ⟨a, cap, e, hn, hle, hm, hb, hc⟩ := own_open h.own (by decide)
  injection e with e1 _ e3
  subst e1 e3
  refine ⟨⟨fun i hi => ?_, fun i hi => (h.ok i hi).1⟩, hle, fun h => (hn h).1, hm, fun x hx => (hb x hx).1⟩
  have key : ∀ j, j < 587 → ∃ g, A = some ⟨g, 0, none⟩ ∧ w.cell? ⟨g, i * 587 + j, none⟩ = (reF L H i).cells[j]? := fun j hj => by
    have hs : (reF L H i).cells[j]? = some ((reF L H i).cells[j]'(by rw [Fld.size]; exact hj)) := Array.getElem?_eq_getElem _
    obtain ⟨g, e1, e2⟩ := hc _ _ ((fldV_get L H n i j hi hj).trans hs)
    exact ⟨g, e1, e2.trans hs.symm⟩
  obtain ⟨g, hg, _⟩ := key 0 (by decide)
  refine ⟨g, 0, hg, fun j hj => ?_⟩
  obtain ⟨g', hg', h2⟩ := key j hj
  rw [hg] at hg'
  injection hg' with hg'
  injection hg' with hg'
  subst hg'
  rw [Nat.zero_add]
  exact h2
theorem conv_is (w : World) (t : List UInt8) : ∃ g W, (convert 9 60 (.string (strB t))).run Tryz.prog w = .ok (.slice (some ⟨w.heap.size, 0, none⟩) t.length g) W ∧ Below w.heap.size w W ∧ IsBy W (some ⟨w.heap.size, 0, none⟩) t := by
  obtain ⟨g, hg, _⟩ := conv_text w t
  refine ⟨g, _, hg, (Below.refl _ _).drew.alloc (Nat.le_refl _) _, fun i hi => ⟨w.heap.size, 0, rfl, ?_⟩⟩
  rw [Nat.zero_add]
  have := World.cell?_alloc_mark w.drew (bytesRow (strB t) g) 5 ((bytesRow (strB t) g).size, (bytesRow (strB t) g).size + 1) i
  rw [show w.drew.heap.size = w.heap.size from rfl] at this
  rw [this, bytesRow_at (strB t) g i (by show i < (strB t).size; rw [strB_size]; exact hi)]
  simp [strB, bc, List.getD, List.getElem?_eq_getElem hi]
theorem Only.base {p : Nat} {w w' w'' : World} (h : Only p w w') (hb : Below w.heap.size w' w'') (hp : p ≤ w.heap.size) : Only p w w'' :=
  ⟨Nat.le_trans h.1 hb.size, h.2.1.trans (hb.mono hp), fun g h1 h2 => (hb.block g h2).trans (h.2.2 g h1 h2)⟩
theorem rd_row {w : World} {p : Nat} {l : List UInt8} {e : Int} (h : Rd w p l e) : ∃ c, rowAt w p = some (c, 117) := by
  obtain ⟨A, c, h1, _⟩ := h
  exact ⟨_, h1⟩
/-- What a reading of fields tells. -/
def MFld (w : World) (p : Nat) (c : Bool) (l Y r : List UInt8) (e : Int) (L : Nat → Fld) (n : Nat) (x : Ending) (w' : World) : Prop :=
  Only p w w' ∧ ((e = 0 ∧ ∃ A c' l' H, x = .returned (.tuple #[.slice A n c', .int .i64 0]) ∧ Rd w' p l' 0 ∧ Feed c l' Y r ∧ l'.length ≤ l.length ∧ RF w' w.heap.size L n A c' H) ∨
    (c = true ∧ ∃ l', x = .returned (.tuple #[.slice none 0 0, .int .i64 3]) ∧ Rd w' p l' 3 ∧ l'.length ≤ l.length))
set_option maxHeartbeats 4000000 in
theorem mfields_ok (p : Nat) (c : Bool) (l Y r : List UInt8) (e v vv : Int) (L : Nat → Fld) (n : Nat) (w : World) (h : Rd w p l e) (hlen : l.length ≤ 70368744170000) (hn : n ≤ 4) (hs : ∀ i, i < n → sayB v (L i) = true) (hf : FedE c l (numB n ++ (fldsF v L 0 n ++ Y)) r e) (hv : e = 0 → vv = v) :
    Calls Tryz.prog 42 #[.pointer (some ⟨p, 0, none⟩), .int .i64 vv] w (MFld w p c l Y r e L n) := by
  have hpw := h.lt
  have HR := Lib.hid h
  have HS := Lib.hid hs
  have HF := Lib.hid hf
  have HV := Lib.hid hv
  clear h hs hf hv
  go_enter Tryz.func42, Tryz.ntmps42
  go_wp2_with fail
  refine (count_feed HR.out (Nat.le_trans hlen (by decide)) (isB_small (by omega) (by omega)) (by omega) (by omega) HF.out).mono ?_
  rintro x w1 ⟨cv, l1, e1, rfl, hr, hcase, hl1, ho⟩
  have HR1 := Lib.hid hr
  have HO1 := Lib.hid ho
  have hp1 := hr.lt
  clear hr ho HF HR
  rcases hcase with ⟨rfl, rfl, rfl, hfd⟩ | ⟨hc, rfl, rfl⟩
  rotate_left
  · have HC := Lib.hid hc
    clear hc
    go_wp2_with fail
    go_loopw [6, 14] (fun v i w' => v = .slice none 0 0 ∧ i = .int .i64 0 ∧ w' = w1) (fun _ _ _ => 0)
    case atStart => exact ⟨rfl, rfl, rfl⟩
    case round =>
      obtain ⟨rfl, rfl, rfl⟩ := hrel
      go_wp2_with (go_at_call 59; refine (err_any HR1.out).mono ?_; rintro e w' ⟨rfl, rfl⟩)
      go_ret2
      exact ⟨HO1.out, .inr ⟨HC.out, l1, rfl, HR1.out, hl1⟩⟩
  · have hvv := HV.out rfl
    subst hvv
    have HFD := Lib.hid hfd
    have hvne : (vv != vv) = false := by simp
    clear hfd
    go_wp2_with fail
    go_loopw [6, 14] (fun u i w' => ∃ (k : Nat) (A' : Option Addr) (c' : Nat) (l' : List UInt8) (H : Nat → Option Addr × Nat), k ≤ n ∧ i = .int .i64 k ∧ u = .slice A' k c' ∧ Rd w' p l' 0 ∧ Feed c l' (fldsF vv L k (n - k) ++ Y) r ∧ l'.length ≤ l.length ∧ RF w' w.heap.size L k A' c' H ∧ Only p w w') (fun _ i _ => n - (intOf i).toNat)
    case atStart => exact ⟨0, none, 0, l1, fun _ => (none, 0), Nat.zero_le _, rfl, rfl, HR1.out, HFD.out, hl1, ⟨own_nil _ _ _ _, fun i hi => by omega⟩, HO1.out⟩
    case round =>
      rename World => wr
      obtain ⟨k, A', c', l2, H, hk, rfl, rfl, hr, hfd, hl2, hrf, ho⟩ := hrel
      clear HFD HR1 HO1
      have HR1 := Lib.hid hr
      have HRF := Lib.hid hrf
      have HO1 := Lib.hid ho
      have hpr := hr.lt
      clear hr hrf ho
      by_cases hlt : k < n
      · rw [fldsF_left hlt, List.append_assoc, List.append_assoc] at hfd
        have HFD : Hid (FedE c l2 (numB (fldW vv (L k)).length ++ (fldW vv (L k) ++ (fldsF vv L (k + 1) (n - (k + 1)) ++ Y))) r 0) := Lib.hid (.inl ⟨rfl, hfd⟩)
        have HSK := Lib.hid (HS.out k hlt)
        have htl := fldW_len (v := vv) (say_right (HS.out k hlt))
        clear hfd
        go_wp2_with fail
        refine (rtext_feed HR1.out (Nat.le_trans hl2 (Nat.le_trans hlen (by decide))) (isB_small (by omega) (by omega)) (by omega) HFD.out).mono ?_
        rintro x w2 ⟨s, l3, e3, rfl, hr, hcase, hl3, ho⟩
        have HR2 := Lib.hid hr
        have hrf := HRF.out.keep (KeepH.only ho (rd_row HR1.out).choose_spec (by decide)) (own_keep HRF.out.own ho hpw)
        have HRF2 := Lib.hid hrf
        have HO2 := Lib.hid (HO1.out.trans ho)
        clear hr hrf ho HR1 HRF HO1 HFD
        rcases hcase with ⟨rfl, -, rfl, hfd⟩ | ⟨hc, rfl⟩
        rotate_left
        · have HC := Lib.hid hc
          clear hc
          go_wp2_with (go_at_call 59; refine (err_any HR2.out).mono ?_; rintro e w' ⟨rfl, rfl⟩)
          go_ret2
          exact ⟨HO2.out, .inr ⟨HC.out, l3, rfl, HR2.out, Nat.le_trans hl3 hl2⟩⟩
        · have HFD := Lib.hid hfd
          obtain ⟨g3, W3, hg, hb3, hi3⟩ := conv_is w2 (fldW vv (L k))
          have HB3 := Lib.hid hb3
          have HI3 := Lib.hid hi3
          clear hfd hb3 hi3
          go_wp2_with (go_at_call 59; refine (err_any HR2.out).mono ?_; rintro e w' ⟨rfl, rfl⟩)
          refine (wdecode_ok vv (L k) _ g3 W3 HSK.out HI3.out (fun h => by cases h)).mono ?_
          rintro x w5 ⟨A9, c9, rfl, hok, hht, -, hb⟩
          have hb5 := bthen HB3.out hb
          have HRF5 := Lib.hid (HRF2.out.below hb5)
          have HR5 := Lib.hid (HR2.out.below hb5 HR2.out.lt)
          have HO5 := Lib.hid (HO2.out.base (hb5.mono HO2.out.1) (Nat.le_of_lt hpw))
          have HOK := Lib.hid hok
          have HHT := Lib.hid hht
          have hF : ∃ F', ({ L k with hA := A9, hc := c9 } : Fld) = F' := ⟨_, rfl⟩
          obtain ⟨F', hF⟩ := hF
          rw [hF] at HOK HHT
          have HFF := Lib.hid hF
          have hws := HO5.out.1
          rw [hF]
          clear hok hht hb hb5 hg HB3 HI3 HRF2 HR2 HO2 hF
          go_wp2_with (at_builtin; refine wl_append_rows2 Tryz.underlying30 info_field fld0.size (by decide) rfl _ _ rfl rfl (own_alloc (own_alloc HRF5.out.own _) _) _ 1 1 F'.cells.toList rfl ?c1 (fun h => by cases h) ?c2 ?c3 ?c4 ?c5 ?c6 ?_)
          case c1 => rw [Array.length_toList, F'.size]
          case c2 => intro j u hu; exact ⟨w5.heap.size + 1, 0, rfl, by rw [Nat.zero_add, cell_of_rowAt (rowAt_alloc_at _ _ _ _ (by simp)), ← hu]; simp⟩
          case c3 => exact fun u hu => (Array.all_eq_true_iff_forall_mem.1 F'.one) u (by simpa using hu)
          case c4 => omega
          case c5 => omega
          case c6 => simp; omega
          intro v' w7 hown hb hgr
          obtain ⟨H', hH1, hH2⟩ : ∃ H' : Nat → Option Addr × Nat, (∀ i, i < k → H i = H' i) ∧ H' k = (A9, c9) := ⟨fun i => if i < k then H i else (A9, c9), fun i hi => by simp [hi], by simp⟩
          have hF2 : reF L H' k = F' := by unfold reF; rw [hH2, ← HFF.out]
          rw [show fldV L H k ++ F'.cells.toList = fldV L H' (k + 1) by rw [fldV, fldV_congr k hH1, hF2]] at hown
          obtain ⟨a7, c7, rfl, -, -, -, -, -⟩ := own_open hown (by decide)
          have hal : Below w5.heap.size w5 ((w5.alloc (.cells F'.cells 79)).alloc (.cells F'.cells 79)) := below_allocS ((Below.refl _ _).alloc (Nat.le_refl _) _) _
          have hkp := KeepH.grown (own_alloc (own_alloc HRF5.out.own (.cells F'.cells 79)) (.cells F'.cells 79)) hgr (by decide)
          have hkp5 := (KeepH.below hal).trans hkp
          have HRF7 : Hid (RF w7 w.heap.size L (k + 1) a7 c7 H') := Lib.hid ⟨hown, fun i hi => by
            by_cases hik : i = k
            · subst hik
              rw [hF2]
              exact hkp5.fld HOK.out HHT.out
            · have := HRF5.out.ok i (by omega)
              rw [show reF L H' i = reF L H i by unfold reF; rw [hH1 i (by omega)]]
              exact hkp5.fld this.1 this.2⟩
          have HR7 := Lib.hid ((HR5.out.below hal (HR5.out.lt)).below hb hpw)
          have HO7 := Lib.hid ((HO5.out.base (hal.mono hws) (Nat.le_of_lt hpw)).base hb (Nat.le_of_lt hpw))
          clear hown hb hgr hkp hkp5 hal HRF5 HR5 HO5 HOK HHT hF2 hH1 hH2
          go_wp2_with fail
          go_roundw
          case rel => exact ⟨k + 1, a7, c7, l3, H', by omega, by go_num, rfl, HR7.out, HFD.out, Nat.le_trans hl3 hl2, HRF7.out, HO7.out⟩
          case measure => simp [intOf]; omega
      · obtain rfl : k = n := by omega
        rw [Nat.sub_self, show fldsF vv L k 0 = [] from by cases k <;> rfl, List.nil_append] at hfd
        have HFD := Lib.hid hfd
        clear hfd
        go_wp2_with (go_at_call 59; refine (err_any HR1.out).mono ?_; rintro e w' ⟨rfl, rfl⟩)
        go_ret2
        exact ⟨HO1.out, .inl ⟨rfl, A', c', l2, H, rfl, HR1.out, HFD.out, hl2, HRF.out⟩⟩
end Go.Proofs.YtlocoieknabiaaaGreat
