/-
  Layer 14 (message): the fields of a message are read.
-/
import Derived.Test.YtinhaipnmmgplaaGreatZWDec
import Derived.Test.YtinhaipnmmgplaaGreatZGF
namespace Go.Proofs.YtinhaipnmmgplaaGreat
set_option maxRecDepth 20000
open Go.RowKit
set_option linter.unusedSimpArgs false
set_option linter.unusedVariables false
attribute [local go_sem] rowCells rowAt_drewN get_ints getE_ints set_ints size_ints rowAt_alloc rowAt_drew setRow_alloc setRow_drewN setRow_drew setCell_alloc setCell_drewN splice_upd splice_put splice_all load_vec_cut load_vecs_cut load_rights_cut load_counter store_vec store_rights store_counter eql_vec neq_vec index_vec eql_rights neq_rights eql_counter index_vecs cut_ints sub_zero
attribute [local go_sem ↓] xload_vec xstore_vec xalloc_vec xeql_vec xneq_vec xindex_vec xbuild_vec0 xload_rights xstore_rights xalloc_rights xeql_rights xneq_rights xbuild_rights0 xload_vecs xindex_vecs xload_counter xstore_counter xalloc_counter xbuild_counter0 xeql_counter xbuild_counter3
attribute [local go_sem] rowAt_setRow rowAt_setCell load_vec_cut_later load_rights_later load_counter_later Later.cell Later.frozen build3_ints
attribute [local go_sem ↓] xload_field xstore_field xalloc_field xload_lock
attribute [local go_sem] load_field load_field_later store_field load_counter_cut load_lock_cut load_lock_later Fld.size Fld.get0 Fld.get1 Fld.get2 Fld.get586 Fld.getE0 Fld.getE1 Fld.getE2 Fld.getE586 Fld.cut_cnt Fld.cut_lock Fld.cut_all Fld.splice_all strT_size

section
variable {P : Program} {w : World}
/-- One struct, laid as a slice. -/
theorem run_buildSlice_agg {T E : TypeId} {n : Nat} {Z : Array Value} (hT : P.underlying T = some (.slice E)) (hi : (P.info? E).map (fun i => (i.zero, i.size)) = some (some (.agg Z), n)) (hz : Z.size = n) (hn : 0 < n) (hn2 : n ≤ 1000) (V : Array Value) (hV : V.size = n) :
    (Instr.buildSlice T 1 #[(0, .agg V)]).run P w = .ok (.slice (some ⟨w.heap.size, 0, none⟩) 1 1) (w.alloc (.cells V E)) := by
  cases hq : P.info? E with
  | none => simp [hq] at hi
  | some i =>
    have h1 : i.size = n := by simp [hq] at hi; exact hi.2
    have h2 : i.zero = some (.agg Z) := by simp [hq] at hi; exact hi.1
    have hf : Instr.fill (fun j => some (j * n, n)) ((Array.range n).map (fun j => Z[j % Z.size]!)) [(0, .agg V)] = some V := by
      simp only [Instr.fill, Value.cells, hV, Nat.zero_mul, Nat.zero_add, Array.size_map, Array.size_range]
      rw [if_neg (by simp)]
      congr 1
      have := fold_set ((Array.range n).map (fun j => Z[j % Z.size]!)) V n (by simp) hV
      simpa [hV] using this
    have h0 : ¬ n = 0 := by omega
    have h3 : ¬ n > 2 ^ 24 := by have : (2 : Nat) ^ 24 = 16777216 := by decide
                                 omega
    unfold Instr.buildSlice
    simp only [Sem.run_bind, run_underlying hT, Result.andThen_ok, sizeOf, typeInfo, hq, h1, Nat.one_mul, show program.run P w = .ok P w from rfl, Sem.run_pure, h0, h3, if_false, zeroValue, h2, Value.cells, hf]
    rfl
end
noncomputable def buildSF (w : World) (v : Value) : Result Next := ((do pure (Next.value (← Instr.buildSlice 22 1 #[(0, v)])) : Sem Next)).run Tryz.prog w
section
variable (ρ : Operand → Value) (d : Option Tmp) (T : TypeId) (p : String) (af : Array Edge) (gd : Option (Nat × Bool)) (x : Operand) (w : World)
theorem xbuildS_field : (execOp ρ ⟨d, .buildSlice 22 1 #[(0, x)], T, p, af, gd⟩).run Tryz.prog w = buildSF w (ρ x) := by simp [execOp, buildSF]
end
theorem buildSF_agg (w : World) (F : Fld) : buildSF w (.agg F.cells) = .ok (.value (.slice (some ⟨w.heap.size, 0, none⟩) 1 1)) (w.alloc (.cells F.cells 58)) := by
  unfold buildSF
  rw [Sem.run_bind, run_buildSlice_agg (n := 587) (Z := fld0.cells) Tryz.underlying22 (by kernel_rfl) fld0.size (by decide) (by decide) F.cells F.size]
  rfl
theorem info_field : (Tryz.prog.info? 58).map (fun i => (i.zero, i.size, i.bytes)) = some (some (.agg fld0.cells), 587, 4720) := by kernel_rfl
attribute [local go_sem ↓] xbuildS_field
attribute [local go_sem] buildSF_agg
/-- The fields from k on, n of them. -/
def fldsF (v : Int) (L : Nat → Fld) : Nat → Nat → List UInt8
  | _, 0 => []
  | k, n + 1 => txtW (fldW v (L k)) ++ fldsF v L (k + 1) n
theorem fldsF_snoc (v : Int) (L : Nat → Fld) : ∀ n k, fldsF v L k (n + 1) = fldsF v L k n ++ txtW (fldW v (L (k + n)))
  | 0, k => by simp [fldsF]
  | n + 1, k => by
    rw [fldsF, fldsF_snoc v L n (k + 1), fldsF, List.append_assoc, show k + 1 + n = k + (n + 1) by omega]
theorem fldsW_F (v : Int) (L : Nat → Fld) : ∀ n, fldsW v L n = fldsF v L 0 n
  | 0 => rfl
  | n + 1 => by rw [fldsW, fldsF_snoc, fldsW_F v L n, Nat.zero_add]
theorem fldsF_left {v : Int} {L : Nat → Fld} {n k : Nat} (h : k < n) : fldsF v L k (n - k) = numB (fldW v (L k)).length ++ (fldW v (L k) ++ fldsF v L (k + 1) (n - (k + 1))) := by
  rw [show n - k = (n - (k + 1)) + 1 by omega, fldsF, txtW, List.append_assoc]
/-- A field, its holds elsewhere. -/
def reF (L : Nat → Fld) (H : Nat → Option Addr × Nat) (i : Nat) : Fld := { L i with hA := (H i).1, hc := (H i).2 }
def fldV (L : Nat → Fld) (H : Nat → Option Addr × Nat) : Nat → List Value
  | 0 => []
  | k + 1 => fldV L H k ++ (reF L H k).cells.toList
theorem fldV_len (L : Nat → Fld) (H : Nat → Option Addr × Nat) : ∀ k, (fldV L H k).length = k * 587
  | 0 => by simp [fldV]
  | k + 1 => by rw [fldV, List.length_append, fldV_len L H k, Array.length_toList, Fld.size]; omega
theorem fldV_congr {L : Nat → Fld} {H G : Nat → Option Addr × Nat} : ∀ k, (∀ i, i < k → H i = G i) → fldV L H k = fldV L G k
  | 0, _ => rfl
  | k + 1, h => by
    rw [fldV, fldV, fldV_congr k fun i hi => h i (by omega)]
    unfold reF
    rw [h k (by omega)]
theorem fldV_get (L : Nat → Fld) (H : Nat → Option Addr × Nat) : ∀ k i j, i < k → j < 587 → (fldV L H k)[i * 587 + j]? = (reF L H i).cells[j]?
  | 0, _, _, h, _ => by omega
  | k + 1, i, j, h, hj => by
    rw [fldV]
    by_cases hi : i < k
    · rw [List.getElem?_append_left (by rw [fldV_len]; have : (i + 1) * 587 ≤ k * 587 := Nat.mul_le_mul_right _ hi; omega)]
      exact fldV_get L H k i j hi hj
    · obtain rfl : i = k := by omega
      rw [List.getElem?_append_right (by rw [fldV_len]; omega), fldV_len, Nat.add_sub_cancel_left, Array.getElem?_toList]
/-- A row of fields of the call's own. -/
structure RF (w : World) (B : Nat) (L : Nat → Fld) (n : Nat) (A : Option Addr) (c : Nat) (H : Nat → Option Addr × Nat) : Prop where
  own : w.ownsRow B 58 587 (.slice A n c) n (fldV L H n)
  ok : ∀ i, i < n → FldOk w (reF L H i) ∧ HT w (reF L H i)
theorem RF.keep {w w' : World} {B : Nat} {L : Nat → Fld} {n : Nat} {A : Option Addr} {c : Nat} {H : Nat → Option Addr × Nat} (h : RF w B L n A c H) (hk : KeepH w w') (ho : w'.ownsRow B 58 587 (.slice A n c) n (fldV L H n)) : RF w' B L n A c H :=
  ⟨ho, fun i hi => hk.fld (h.ok i hi).1 (h.ok i hi).2⟩
theorem RF.below {w w' : World} {B : Nat} {L : Nat → Fld} {n : Nat} {A : Option Addr} {c : Nat} {H : Nat → Option Addr × Nat} (h : RF w B L n A c H) (hb : Below w.heap.size w w') : RF w' B L n A c H :=
  h.keep (KeepH.below hb) (own_below h.own hb)
theorem RF.is {w : World} {B : Nat} {L : Nat → Fld} {n : Nat} {A : Option Addr} {c : Nat} {H : Nat → Option Addr × Nat} (h : RF w B L n A c H) : FldsIs w A n (reF L H) ∧ n ≤ c ∧ (A = none → c = 0) ∧ c ≤ 9223372036854775807 ∧ (∀ x, A = some x → B ≤ x.block) := by
  obtain ⟨a, cap, e, hn, hle, hm, hb, hc⟩ := own_open h.own (by decide)
  injection e with e1 _ e3
  subst e1 e3
  refine ⟨⟨fun i hi => ?_, fun i hi => (h.ok i hi).1⟩, hle, fun h => (hn h).1, hm, fun x hx => (hb x hx).1⟩
  have key : ∀ j, j < 587 → ∃ g, A = some ⟨g, 0, none⟩ ∧ w.cell? ⟨g, i * 587 + j, none⟩ = (reF L H i).cells[j]? := fun j hj => by
    have hs : (reF L H i).cells[j]? = some ((reF L H i).cells[j]'(by rw [Fld.size]; exact hj)) := Array.getElem?_eq_getElem _
    obtain ⟨g, e1, e2⟩ := hc _ _ ((fldV_get L H n i j hi hj).trans hs)
    exact ⟨g, e1, e2.trans hs.symm⟩
  obtain ⟨g, hg, _⟩ := key 0 (by decide)
  refine ⟨g, 0, hg, fun j hj => ?_⟩
  obtain ⟨g', hg', h2⟩ := key j hj
  rw [hg] at hg'
  injection hg' with hg'
  injection hg' with hg'
  subst hg'
  rw [Nat.zero_add]
  exact h2
theorem conv_is (w : World) (t : List UInt8) : ∃ g W, (convert 9 39 (.string (strB t))).run Tryz.prog w = .ok (.slice (some ⟨w.heap.size, 0, none⟩) t.length g) W ∧ Below w.heap.size w W ∧ IsBy W (some ⟨w.heap.size, 0, none⟩) t := by
  obtain ⟨g, hg, _⟩ := conv_text w t
  refine ⟨g, _, hg, (Below.refl _ _).drew.alloc (Nat.le_refl _) _, fun i hi => ⟨w.heap.size, 0, rfl, ?_⟩⟩
  rw [Nat.zero_add]
  have := World.cell?_alloc_mark w.drew (bytesRow (strB t) g) 5 ((bytesRow (strB t) g).size, (bytesRow (strB t) g).size + 1) i
  rw [show w.drew.heap.size = w.heap.size from rfl] at this
  rw [this, bytesRow_at (strB t) g i (by show i < (strB t).size; rw [strB_size]; exact hi)]
  simp [strB, bc, List.getD, List.getElem?_eq_getElem hi]
theorem Only.base {p : Nat} {w w' w'' : World} (h : Only p w w') (hb : Below w.heap.size w' w'') (hp : p ≤ w.heap.size) : Only p w w'' :=
  ⟨Nat.le_trans h.1 hb.size, h.2.1.trans (hb.mono hp), fun g h1 h2 => (hb.block g h2).trans (h.2.2 g h1 h2)⟩
theorem rd_row {w : World} {p : Nat} {l : List UInt8} {e : Int} (h : Rd w p l e) : ∃ c, rowAt w p = some (c, 102) := by
  obtain ⟨A, c, h1, _⟩ := h
  exact ⟨_, h1⟩
/-- What a reading of fields tells. -/
def MFld (w : World) (p : Nat) (c : Bool) (l Y r : List UInt8) (e : Int) (L : Nat → Fld) (n : Nat) (x : Ending) (w' : World) : Prop :=
  Only p w w' ∧ ((e = 0 ∧ ∃ A c' l' H, x = .returned (.tuple #[.slice A n c', .int .i64 0]) ∧ Rd w' p l' 0 ∧ Feed c l' Y r ∧ l'.length ≤ l.length ∧ RF w' w.heap.size L n A c' H) ∨
    (c = true ∧ ∃ l', x = .returned (.tuple #[.slice none 0 0, .int .i64 3]) ∧ Rd w' p l' 3 ∧ l'.length ≤ l.length))
end Go.Proofs.YtinhaipnmmgplaaGreat
