/-
  Layer 12 (wlog): a log all of whose blocks meet a condition, and what else stays.
-/
import Derived.Test.YtfnbcafilbafgaaDoorWlogMore
namespace Go.Proofs.YtfnbcafilbafgaaDoor
open Go.RowKit
set_option linter.unusedSimpArgs false
set_option linter.unusedVariables false
attribute [local go_sem] Later.cell
/-- What does not meet X is as it was. -/
structure Fr (X : Nat → Prop) (w w' : World) : Prop where
  os : w'.os = w.os
  tape : w'.tape = w.tape
  output : w'.output = w.output
  size : w.heap.size ≤ w'.heap.size
  block : ∀ k, k < w.heap.size → ¬ X k → w'.heap[k]? = w.heap[k]?
theorem Fr.of {X : Nat → Prop} {w w' : World} (h : Below w.heap.size w w') : Fr X w w' := ⟨h.os, h.tape, h.output, h.size, fun k hk _ => h.block k hk⟩
theorem Fr.refl (X : Nat → Prop) (w : World) : Fr X w w := Fr.of (Below.refl _ _)
theorem Fr.trans {X : Nat → Prop} {a b c : World} (h : Fr X a b) (g : Fr X b c) : Fr X a c :=
  ⟨g.os.trans h.os, g.tape.trans h.tape, g.output.trans h.output, Nat.le_trans h.size g.size, fun k hk hn => (g.block k (Nat.lt_of_lt_of_le hk h.size) hn).trans (h.block k hk hn)⟩
theorem Fr.then {X : Nat → Prop} {a b c : World} (h : Fr X a b) (g : Below b.heap.size b c) : Fr X a c := h.trans (Fr.of g)
theorem Fr.bt {X : Nat → Prop} {p : Nat} {w w' : World} (h : Bt p w w') (hp : X p) : Fr X w w' := ⟨h.os, h.tape, h.output, h.size, fun k hk hn => h.block k hk (fun e => hn (e ▸ hp))⟩
theorem Fr.grown {X : Nat → Prop} {w w' : World} {o : Option Nat} (h : w.grownBy w' o) (ho : ∀ k, o = some k → X k) : Fr X w w' := ⟨h.os, h.tape, h.output, h.size, fun k hk hn => h.block k hk (fun e => hn (ho k e.symm))⟩
theorem Fr.below {X : Nat → Prop} {w w' : World} {B : Nat} (h : Fr X w w') (hX : ∀ k, k < B → ¬ X k) (hB : B ≤ w.heap.size) : Below B w w' := ⟨h.os, h.tape, h.output, h.size, fun k hk => h.block k (by omega) (hX k hk)⟩
theorem Fr.row {X : Nat → Prop} {w w' : World} (h : Fr X w w') {k : Nat} {x : Array Value × TypeId} (hr : rowAt w k = some x) (hn : ¬ X k) : rowAt w' k = some x := (rowAt_of_heap (h.block k (rowAt_lt hr) hn)).trans hr
theorem Fr.isBy {X : Nat → Prop} {w w' : World} (h : Fr X w w') {A : Option Addr} {t : List UInt8} (ht : IsBy w A t) (hn : t ≠ [] → ∀ x, A = some x → ¬ X x.block) : IsBy w' A t := by
  intro i hi
  obtain ⟨b, o, g1, g2⟩ := ht i hi
  have := hn (by intro e; subst e; simp at hi) _ g1
  exact ⟨b, o, g1, (World.cell?_of_block (h.block b (World.block_lt_of_cell? _ _ g2) this)).trans g2⟩
/-- Texts of one's own, all in blocks that meet X. -/
def OwnTxX (X : Nat → Prop) (w : World) (v : Value) (ps : List (List UInt8)) : Prop :=
  ∃ V : Nat → Option Addr × Nat, (w.ownsRow 0 24 1 v ps.length (txCells V ps) ∧
    ∀ i, i < ps.length → IsBy w (V i).1 (ps.getD i []) ∧ (ps.getD i []).length ≤ (V i).2 ∧ ((V i).1 = none → (V i).2 = 0) ∧ (ps.getD i [] ≠ [] → ∀ x, (V i).1 = some x → v.ownBlock ≠ some x.block)) ∧
    (∀ i, i < ps.length → ps.getD i [] ≠ [] → ∀ x, (V i).1 = some x → X x.block) ∧ (∀ k, v.ownBlock = some k → X k)
theorem OwnTxX.tx {X : Nat → Prop} {w : World} {v : Value} {ps : List (List UInt8)} (h : OwnTxX X w v ps) : OwnTx w 0 v ps := by
  obtain ⟨V, h1, _⟩ := h
  exact ⟨V, h1⟩
theorem OwnTxX.mono {X Y : Nat → Prop} {w : World} {v : Value} {ps : List (List UInt8)} (h : OwnTxX X w v ps) (hXY : ∀ k, k < w.heap.size → X k → Y k) : OwnTxX Y w v ps := by
  obtain ⟨V, h1, h2, h3⟩ := h
  refine ⟨V, h1, fun i hi hn x hx => hXY _ ?_ (h2 i hi hn x hx), fun k hk => hXY k (World.ownsRow.lt h1.1 k hk).2 (h3 k hk)⟩
  obtain ⟨b, o, g1, g2⟩ := (h1.2 i hi).1 0 (List.length_pos_iff.2 hn)
  have hlt : b < w.heap.size := World.block_lt_of_cell? _ _ g2
  rw [hx] at g1
  injection g1 with g1
  have : x.block = b := by rw [g1]
  omega
theorem OwnTx.x {base : Nat} {w : World} {v : Value} {ps : List (List UInt8)} (h : OwnTx w base v ps) : OwnTxX (fun k => k < w.heap.size) w v ps := by
  obtain ⟨V, h1, h2⟩ := h.mono (Nat.zero_le _)
  refine ⟨V, ⟨h1, h2⟩, fun i hi hn x hx => ?_, fun k hk => (World.ownsRow.lt h1 k hk).2⟩
  obtain ⟨b, o, g1, g2⟩ := (h2 i hi).1 0 (List.length_pos_iff.2 hn)
  have hlt : b < w.heap.size := World.block_lt_of_cell? _ _ g2
  rw [hx] at g1
  injection g1 with g1
  have : x.block = b := by rw [g1]
  omega
theorem OwnTxX.below {X : Nat → Prop} {w w' : World} {v : Value} {ps : List (List UInt8)} (h : OwnTxX X w v ps) (hb : Below w.heap.size w w') : OwnTxX X w' v ps := by
  obtain ⟨V, h1, h2⟩ := h
  exact ⟨V, ⟨ownsRow_below h1.1 hb, fun i hi => ⟨(h1.2 i hi).1.below hb, (h1.2 i hi).2⟩⟩, h2⟩
theorem OwnTxX.off {X : Nat → Prop} {w w' : World} {g : Nat} {v : Value} {ps : List (List UInt8)} {c : Array Value} {T : TypeId} (h : OwnTxX X w v ps) (hr : rowAt w g = some (c, T)) (hT : T ≠ 24) (hn : NoBy w g) (hb : Bt g w w') : OwnTxX X w' v ps := by
  have hv : ∀ k, v.ownBlock = some k → k ≠ g := fun k hk => by
    obtain ⟨cur, h2⟩ := h.tx.block hk
    exact (rowAt_ne h2 hr (fun e => hT e.symm))
  obtain ⟨V, h1, h2⟩ := h
  refine ⟨V, ⟨⟨h1.1.1, ?_⟩, fun i hi => ⟨isBy_off (h1.2 i hi).1 hn hb, (h1.2 i hi).2⟩⟩, h2⟩
  rcases h1.1.2 with hx | ⟨k, cap, cur, hx, hbk, hk, rest⟩
  · exact .inl hx
  · exact .inr ⟨k, cap, cur, hx, hbk, (hb.block k (Array.getElem?_eq_some_iff.1 hk).1 (hv k (by rw [hx]; rfl))).trans hk, rest⟩
/-- Another block is written. -/
theorem OwnTxX.away {X : Nat → Prop} {w w' : World} {g : Nat} {v : Value} {ps : List (List UInt8)} (h : OwnTxX X w v ps) (hb : Bt g w w') (hg : ¬ X g) : OwnTxX X w' v ps := by
  obtain ⟨V, h1, h2, h3⟩ := h
  refine ⟨V, ⟨⟨h1.1.1, ?_⟩, fun i hi => ⟨fun j hj => ?_, (h1.2 i hi).2⟩⟩, h2, h3⟩
  · rcases h1.1.2 with hx | ⟨k, cap, cur, hx, hbk, hk, rest⟩
    · exact .inl hx
    · exact .inr ⟨k, cap, cur, hx, hbk, (hb.block k (Array.getElem?_eq_some_iff.1 hk).1 (fun e => hg (e ▸ h3 k (by rw [hx]; rfl)))).trans hk, rest⟩
  · obtain ⟨b, o, g1, g2⟩ := (h1.2 i hi).1 j hj
    have := h2 i hi (by intro e; rw [e] at hj; simp at hj) _ g1
    exact ⟨b, o, g1, (hb.cell (World.block_lt_of_cell? _ _ g2) (fun e => hg (e ▸ this))).trans g2⟩
theorem wp_append_textX {X : Nat → Prop} {o : Oper} {a : Act} {w : World} {K : Act → World → Prop} {Q : Exit → Act → World → Prop} (s x : Operand)
    (ho : o.op = .call { callee := .builtin .append, args := #[s, x], argTypes := #[22, 22] }) (v : Value) (ps : List (List UInt8)) (p : List UInt8) (A : Option Addr) (n c : Nat)
    (hown : OwnTxX X w v ps) (hs : a.eval s = v) {q : Nat} (hx : a.eval x = .slice (some ⟨q, 0, none⟩) 1 1) (hq : q = w.heap.size) (hy : IsBy w A p) (hn : p.length = n) (hpc : p.length ≤ c) (hA : A = none → c = 0)
    (hap : p ≠ [] → ∀ y, A = some y → v.ownBlock ≠ some y.block ∧ X y.block) (hlen : ps.length ≤ 1000000000) (hXf : ∀ g, w.heap.size ≤ g → X g)
    (h : ∀ v' w', OwnTxX X w' v' (ps ++ [p]) → w.grownBy w' v.ownBlock → (v'.ownBlock = v.ownBlock ∨ ∃ g, v'.ownBlock = some g ∧ w.heap.size ≤ g) → K (a.put o.dst v') w') : o.wp Tryd.prog a (w.alloc (.cells #[.slice A n c] 24)) K Q := by
  subst hq hn
  obtain ⟨V, h1, h2, h3⟩ := hown
  obtain ⟨v', w', hr, k1, k2, k3⟩ := run_append_textV o.type 0 v ps p A c V h1.1 h1.2 hy hpc hA (fun hn y hy => (hap hn y hy).1) hlen (Nat.zero_le _)
  unfold Oper.wp execOp
  simp only [ho, resolve, invoke, builtin, Sem.run_bind, Sem.run_pure, Result.andThen_ok, List.map_toArray, List.map_cons, List.map_nil, hs, hx, hr]
  refine h v' w' ⟨_, k1, fun i hi hn x hx => ?_, fun k hk => ?_⟩ k2 k3
  · rw [List.length_append, List.length_singleton] at hi
    by_cases hlt : i < ps.length
    · have e1 : (ps ++ [p]).getD i [] = ps.getD i [] := by simp [List.getD, List.getElem?_append_left hlt]
      rw [e1] at hn
      simp only [if_pos hlt] at hx
      exact h2 i hlt hn x hx
    · obtain rfl : i = ps.length := by omega
      have e1 : (ps ++ [p]).getD ps.length [] = p := by simp [List.getD]
      rw [e1] at hn
      simp only [Nat.lt_irrefl, if_false] at hx
      exact (hap hn x hx).2
  · rcases k3 with k3 | ⟨g, k3, k4⟩
    · exact h3 k (by rw [← k3]; exact hk)
    · rw [k3] at hk
      injection hk with hk
      exact hk ▸ hXf g k4
/-- Where bytes lie: apart from a slice of texts, and in a block that meets X. -/
def ApartX (X : Nat → Prop) (v : Value) (b : List UInt8) (A : Option Addr) : Prop := b ≠ [] → ∀ x, A = some x → v.ownBlock ≠ some x.block ∧ X x.block
theorem DKX.grownX {X : Nat → Prop} {w w' : World} {p : Nat} {l : List UInt8} {ps : List (List UInt8)} {s f : Int} {v v' : Value} (h : DKX (ApartX X v l) w p s l f) (ho : OwnTxX X w v ps) (hg : w.grownBy w' v.ownBlock) (hv : v'.ownBlock = v.ownBlock ∨ ∃ g, v'.ownBlock = some g ∧ w.heap.size ≤ g) : DKX (ApartX X v' l) w' p s l f := by
  have h0 : DKX (ApartT v l) w p s l f := h.mono (fun A _ hA hl x hx => (hA hl x hx).1)
  have h1 := h0.grownT ho.tx hg hv
  obtain ⟨A, c, g1, g2, g3, g4, g5⟩ := h
  obtain ⟨A', c', g1', g2', g3', g4', g5'⟩ := h1
  have hne : v.ownBlock ≠ some p := fun e => by
    obtain ⟨cur, h6⟩ := ho.tx.block e
    exact rowAt_ne h6 g1 (by decide) rfl
  have hrow : rowAt w' p = rowAt w p := rowAt_of_heap (hg.block p (rowAt_lt g1) (fun e => hne e.symm))
  have e := g1'.symm.trans (hrow.trans g1)
  have eA : A' = A := by
    injection e with e
    injection e with e _
    have := congrArg (fun a : Array Value => a[1]?) e
    simp at this
    exact this.1
  exact ⟨A', c', g1', g2', g3', g4', fun hl x hx => ⟨g5' hl x hx, (g5 hl x (eA ▸ hx)).2⟩⟩
/-- A log all of whose blocks meet X. -/
def LGX (X : Nat → Prop) (w : World) (q p : Nat) (s : Int) (b : List UInt8) (f : Int) (ps : List (List UInt8)) : Prop :=
  ∃ v, rowAt w q = some (#[.pointer (some ⟨p, 0, none⟩), v], 67) ∧ OwnTxX X w v ps ∧ DKX (ApartX X v b) w p s b f ∧ X q ∧ X p
theorem LGX.lg {X : Nat → Prop} {w : World} {q p : Nat} {s f : Int} {b : List UInt8} {ps : List (List UInt8)} (h : LGX X w q p s b f ps) : LG 0 w q p s b f ps := by
  obtain ⟨v, h1, h2, h3, _⟩ := h
  exact ⟨v, h1, h2.tx, h3.mono (fun A _ hA hl x hx => (hA hl x hx).1), Nat.zero_le _, Nat.zero_le _⟩
theorem LG.x {base : Nat} {w : World} {q p : Nat} {s f : Int} {b : List UInt8} {ps : List (List UInt8)} (h : LG base w q p s b f ps) : LGX (fun k => k < w.heap.size) w q p s b f ps := by
  have hp := h.dk.lt
  obtain ⟨v, h1, h2, h3, _⟩ := h
  refine ⟨v, h1, h2.x, h3.mono (fun A hA hX hl x hx => ⟨hX hl x hx, ?_⟩), rowAt_lt h1, hp⟩
  obtain ⟨b1, o1, g1, g2⟩ := hA 0 (List.length_pos_iff.2 hl)
  have hlt : b1 < w.heap.size := World.block_lt_of_cell? _ _ g2
  rw [hx] at g1
  injection g1 with g1
  have : x.block = b1 := by rw [g1]
  omega
theorem LGX.mono {X Y : Nat → Prop} {w : World} {q p : Nat} {s f : Int} {b : List UInt8} {ps : List (List UInt8)} (h : LGX X w q p s b f ps) (hXY : ∀ k, k < w.heap.size → X k → Y k) : LGX Y w q p s b f ps := by
  have hp := h.lg.dk.lt
  obtain ⟨v, h1, h2, h3, h4, h5⟩ := h
  refine ⟨v, h1, h2.mono hXY, h3.mono (fun A hA hX hl x hx => ⟨(hX hl x hx).1, hXY _ ?_ (hX hl x hx).2⟩), hXY _ (rowAt_lt h1) h4, hXY _ hp h5⟩
  obtain ⟨b1, o1, g1, g2⟩ := hA 0 (List.length_pos_iff.2 hl)
  have hlt : b1 < w.heap.size := World.block_lt_of_cell? _ _ g2
  rw [hx] at g1
  injection g1 with g1
  have : x.block = b1 := by rw [g1]
  omega
theorem LGX.below {X : Nat → Prop} {w w' : World} {q p : Nat} {s f : Int} {b : List UInt8} {ps : List (List UInt8)} (h : LGX X w q p s b f ps) (hb : Below w.heap.size w w') : LGX X w' q p s b f ps := by
  obtain ⟨v, h1, h2, h3, h4⟩ := h
  exact ⟨v, rowKeep hb h1, h2.below hb, h3.below hb, h4⟩
theorem LGX.away {X : Nat → Prop} {w w' : World} {q p g : Nat} {s f : Int} {b : List UInt8} {ps : List (List UInt8)} (h : LGX X w q p s b f ps) (hb : Bt g w w') (hg : ¬ X g) : LGX X w' q p s b f ps := by
  obtain ⟨v, h1, h2, h3, h4, h5⟩ := h
  refine ⟨v, (hb.row (rowAt_lt h1) (fun e => hg (e ▸ h4))).trans h1, h2.away hb hg, ?_, h4, h5⟩
  obtain ⟨A, c, g1, g2, g3, g4, g5⟩ := h3
  refine ⟨A, c, (hb.row (rowAt_lt g1) (fun e => hg (e ▸ h5))).trans g1, fun i hi => ?_, g3, g4, g5⟩
  obtain ⟨b1, o1, j1, j2⟩ := g2 i hi
  have := (g5 (by intro e; rw [e] at hi; simp at hi) _ j1).2
  exact ⟨b1, o1, j1, (hb.cell (World.block_lt_of_cell? _ _ j2) (fun e => hg (e ▸ this))).trans j2⟩
set_option maxHeartbeats 2000000 in
theorem wappend_okX {X : Nat → Prop} {w : World} {q p : Nat} {s f : Int} {b t : List UInt8} {A : Option Addr} {c : Nat} {ps : List (List UInt8)} (h : LGX X w q p s b f ps) (hN : Nib w) (ht : IsBy w A t) (htc : t.length ≤ c) (hA : A = none → c = 0) (hlen : t.length ≤ 32768) (h0 : 0 ≤ s) (h1 : s ≤ 1099511627776) (h2 : b.length ≤ 1099511627776) (hn : (b.length : Int) + t.length + 8 ≤ s) (hps : ps.length ≤ 1000000) (hXf : ∀ g, w.heap.size ≤ g → X g) :
    Calls Tryd.prog 19 #[.pointer (some ⟨q, 0, none⟩), .slice A t.length c] w fun e w' => e = .returned (.int .i64 0) ∧ LGX X w' q p s (b ++ putL t) ((b ++ putL t).length : Nat) (ps ++ [t]) ∧ Fr X w w' := by
  have H := Lib.hid h
  have HT := Lib.hid ht
  have HN := Lib.hid hN
  have hA' := Lib.hid hA
  clear h ht hN hA
  go_enter Tryd.func19, Tryd.ntmps19
  go_wp2_with fail
  refine (fput_any A t c w HN.out HT.out htc hA'.out hlen).mono ?_
  rintro e w1 ⟨v, rfl, hown, hb⟩
  have hpl := putL_len t
  obtain ⟨Av, cv, rfl, i1, i2, i3, _⟩ := hown.isBy
  have HB1 := Lib.hid (Fr.of (X := X) hb)
  have H1 := Lib.hid (H.out.below hb)
  have HT1 := Lib.hid (HT.out.below hb)
  have hs1 := hb.size
  obtain ⟨v0, r1, r2, r3, r4, r5⟩ := H1.out
  have d0 : w1.cell? ⟨q, 0, none⟩ = some (.pointer (some ⟨p, 0, none⟩)) := by rw [cell_of_rowAt r1]; rfl
  have hv0 := r2.tx.lt
  have HF := Lib.hid (dappend_okY (Y := ApartX X v0 (b ++ putL t)) (t := putL t) (B := Av) (c' := cv) r3 (fun h => absurd h (by intro h; have := congrArg List.length h; rw [putL_len] at this; simp at this)) (fun _ x hx _ y hy => by
    injection hy with hy
    subst hy
    exact ⟨fun e => by have := hv0 _ e; omega, hXf _ (by omega)⟩) h0 h1 h2 i1 i2 (by rw [putL_len]; omega))
  obtain ⟨m, hm⟩ : ∃ m, (putL t).length = m := ⟨_, rfl⟩
  rw [hm] at HF
  rw [hm]
  have R := Lib.hid (And.intro r1 (And.intro r2 (And.intro r3 (And.intro r4 r5))))
  have hq : q < w1.heap.size := rowAt_lt r1
  clear hown hb i1 i2 i3 r1 r2 r3 hv0 hpl hm
  go_wp2_with fail
  refine HF.out.mono ?_
  rintro e w2 ⟨rfl, hd2, hb2⟩
  have hne := H1.out.lg.ne
  obtain ⟨r1, r2, r3, r4, r5⟩ := R.out
  have J0 := Lib.hid r2
  obtain ⟨cc, r6⟩ := r3.dk.row
  have k1 := (hb2.row (rowAt_lt r1) hne).trans r1
  have k2 := r2.off r6 (by decide) r3.dk.noBy hb2
  have HB2 := Lib.hid (HB1.out.trans (Fr.bt hb2 r5))
  have HT2 := Lib.hid (isBy_off HT1.out r3.dk.noBy hb2)
  have d0 : w2.cell? ⟨q, 0, none⟩ = some (.pointer (some ⟨p, 0, none⟩)) := by rw [cell_of_rowAt k1]; rfl
  have HD2 := Lib.hid hd2
  have hs2 := hb2.size
  have K := Lib.hid (And.intro k1 k2)
  clear hd2 hb2 k1 k2 r1 r2 r3 r6 R HF
  go_wp2_with fail
  refine (dsync_anyX HD2.out).mono ?_
  rintro e w3 ⟨rfl, hd3, hb3⟩
  obtain ⟨k1, k2⟩ := K.out
  obtain ⟨cc, r6⟩ := HD2.out.dk.row
  have j1 := (hb3.row (rowAt_lt k1) hne).trans k1
  have j2 := k2.off r6 (by decide) HD2.out.dk.noBy hb3
  have HB3 := Lib.hid (HB2.out.trans (Fr.bt hb3 r5))
  have HT3 := Lib.hid (isBy_off HT2.out HD2.out.dk.noBy hb3)
  have HD3 := Lib.hid hd3
  have J := Lib.hid (And.intro j1 j2)
  clear hd3 hb3 k1 k2 r6 j1 j2 K
  have hq3 : q < w3.heap.size := rowAt_lt J.out.1
  have d1 : w3.cell? ⟨q, 1, none⟩ = some v0 := by rw [cell_of_rowAt J.out.1]; rfl
  go_upto_region 8 with fail
  refine wp_region_held_drew (S := fun _ : World => True) (by kernel_rfl) trivial (fun hS => ?_)
  have hdr : Below w3.heap.size w3 w3.drew := (Below.refl _ _).drew
  have HB := Lib.hid (HB3.out.then hdr)
  have HT := Lib.hid (HT3.out.below hdr)
  have HD := Lib.hid (HD3.out.below hdr)
  have J := Lib.hid (And.intro (rowKeep hdr J.out.1) (J.out.2.below hdr))
  clear hdr HT3 HD3 HB3 d1 hq3
  generalize w3.drew = W1 at *
  refine held_take (i := 0) (by simp only [List.getElem?_toArray, List.getElem?_cons_succ, List.getElem?_cons_zero]; rfl) (by decide +kernel) (by decide +kernel) (by decide +kernel) (by exact fun _ _ _ _ h => h) hS (by rfl) ?_
  apply Exists.intro
  refine ⟨fun w' hSw => ?_, ?_⟩
  · go_simp
    with_reducible rfl
  (try simp only [act_put, act_put_none, List.set_cons_zero, List.set_cons_succ])
  refine held_take (i := 1) (by simp only [List.getElem?_toArray, List.getElem?_cons_succ, List.getElem?_cons_zero]; rfl) (by decide +kernel) (by decide +kernel) (by decide +kernel) (by exact fun _ _ _ _ h => h) hS (by rfl) ?_
  apply Exists.intro
  refine ⟨fun w' hSw => ?_, ?_⟩
  · go_simp
    with_reducible rfl
  (try simp only [act_put, act_put_none, List.set_cons_zero, List.set_cons_succ])
  refine held_take (i := 2) (by simp only [List.getElem?_toArray, List.getElem?_cons_succ, List.getElem?_cons_zero]; rfl) (by decide +kernel) (by decide +kernel) (by decide +kernel) (by exact fun _ _ _ _ h => h) hS (by rfl) ?_
  apply Exists.intro
  refine ⟨fun w' hSw => ?_, ?_⟩
  · go_simp
    with_reducible rfl
  (try simp only [act_put, act_put_none, List.set_cons_zero, List.set_cons_succ])
  refine held_take (i := 3) (by simp only [List.getElem?_toArray, List.getElem?_cons_succ, List.getElem?_cons_zero]; rfl) (by decide +kernel) (by decide +kernel) (by decide +kernel) (by exact fun _ _ _ _ h => h) hS (by rfl) ?_
  apply Exists.intro
  refine ⟨fun w' hSw => ?_, ?_⟩
  · go_simp
    with_reducible rfl
  (try simp only [act_put, act_put_none, List.set_cons_zero, List.set_cons_succ])
  refine held_take (i := 5) (by simp only [List.getElem?_toArray, List.getElem?_cons_succ, List.getElem?_cons_zero]; rfl) (by decide +kernel) (by decide +kernel) (by decide +kernel) (by exact fun _ _ _ _ h => h) hS (by rfl) ?_
  apply Exists.intro
  refine ⟨fun w' hSw => ?_, ?_⟩
  · go_simp
    with_reducible rfl
  (try simp only [act_put, act_put_none, List.set_cons_zero, List.set_cons_succ])
  refine wpAnyH_ready (rs := [4, 6]) (by decide +kernel) (by simp) ?_
  refine AllReadyH.cons (i := 4) (by simp only [List.getElem?_toArray, List.getElem?_cons_succ, List.getElem?_cons_zero]; rfl) (fun K hK => ?_) ?_
  · have d1 : W1.cell? ⟨q, 1, none⟩ = some v0 := by rw [cell_of_rowAt J.out.1]; rfl
    go_simp
    refine hK.out _ _ trivial (fun _ => ?_)
    clear hK K d1
    (try simp only [act_put, act_put_none, List.set_cons_zero, List.set_cons_succ])
    refine wpAnyH_ready (rs := [6]) (by decide +kernel) (by simp) ?_
    refine AllReadyH.cons (i := 6) (by simp only [List.getElem?_toArray, List.getElem?_cons_succ, List.getElem?_cons_zero]; rfl) (fun K hK => ?_) ?_
    · go_simp
      go_at_call 36
      refine (clone_bytes A t c _ HT.out hA'.out (by omega)).mono ?_
      rintro e w5 ⟨v5, rfl, hown, hb⟩
      obtain ⟨A5, c5, rfl, i1, i2, i3, i4⟩ := hown.isBy
      have HB5 := Lib.hid (HB.out.then hb)
      have hsz5 := HB.out.size
      have HD5 := Lib.hid (HD.out.below hb)
      have J5 := Lib.hid (And.intro (rowKeep hb J.out.1) (J.out.2.below hb))
      have hlt4 := J.out.2.tx.lt
      have hap : t ≠ [] → ∀ x, A5 = some x → v0.ownBlock ≠ some x.block ∧ X x.block := fun _ x hx => ⟨fun e => by
        have h1 := hlt4 _ e
        have h2 := i4 x hx
        omega, hXf _ (by have h2 := i4 x hx; omega)⟩
      have HI := Lib.hid i1
      have I3 := Lib.hid i3
      have I2 := Lib.hid i2
      have HAP := Lib.hid hap
      clear hown hb i1 i2 i3 i4 hlt4 hap hsz5 J HD HT HB
      clear W1
      have HB := HB5
      have HD := HD5
      have J := J5
      clear HB5 HD5 J5
      rename World => W1
      go_simp
      refine hK.out _ _ trivial (fun _ => ?_)
      clear hK K
      (try simp only [act_put, act_put_none, List.set_cons_zero, List.set_cons_succ])
      refine wpAnyH_ready (rs := [7]) (by decide +kernel) (by simp) ?_
      refine AllReadyH.cons (i := 7) (by simp only [List.getElem?_toArray, List.getElem?_cons_succ, List.getElem?_cons_zero]; rfl) (fun K hK => ?_) ?_
      · go_simp
        refine hK.out _ _ trivial (fun _ => ?_)
        clear hK K
        (try simp only [act_put, act_put_none, List.set_cons_zero, List.set_cons_succ])
        refine wpAnyH_ready (rs := [8]) (by decide +kernel) (by simp) ?_
        refine AllReadyH.cons (i := 8) (by simp only [List.getElem?_toArray, List.getElem?_cons_succ, List.getElem?_cons_zero]; rfl) (fun K hK => ?_) ?_
        · rw [if_pos (by rfl)]
          refine wp_append_textX _ _ rfl _ ps t A5 t.length c5 J.out.2 rfl rfl rfl HI.out rfl I3.out I2.out HAP.out (by omega) (fun g hg => hXf g (Nat.le_trans HB.out.size hg)) ?_
          intro v6 w6 ho6 hg6 hv6
          obtain ⟨A6, c6, V6, hv6e, _⟩ := ho6.tx.texts
          subst hv6e
          obtain ⟨j1, j2⟩ := J.out
          have hqv : v0.ownBlock ≠ some q := fun e => by
            obtain ⟨cur, h6⟩ := j2.tx.block e
            exact rowAt_ne h6 j1 (by decide) rfl
          have r6 : rowAt w6 q = some (#[.pointer (some ⟨p, 0, none⟩), v0], 67) := (rowAt_of_heap (hg6.block q (rowAt_lt j1) (fun e => hqv e.symm))).trans j1
          have HD6 := Lib.hid (HD.out.grownX j2 hg6 hv6)
          have HB6 := Lib.hid (HB.out.trans (Fr.grown hg6 (by obtain ⟨_, _, _, h⟩ := j2; exact h)))
          have d1 : w6.cell? ⟨q, 1, none⟩ = some v0 := by rw [cell_of_rowAt r6]; rfl
          have f1 : w6.frozen? ⟨q, 1, none⟩ = false := frozen_of_rowAt r6 1
          have HO6 := Lib.hid ho6
          have HR6 := Lib.hid r6
          have hs6 := HB6.out.size
          clear ho6 hg6 hv6 j1 j2 r6 J HD HB
          refine hK.out _ _ trivial (fun _ => ?_)
          clear hK K
          (try simp only [act_put, act_put_none, List.set_cons_zero, List.set_cons_succ])
          refine held_take (i := 9) (by simp only [List.getElem?_toArray, List.getElem?_cons_succ, List.getElem?_cons_zero]; rfl) (by decide +kernel) (by decide +kernel) (by decide +kernel) (by exact fun _ _ _ _ h => h) hS (by rfl) ?_
          apply Exists.intro
          refine ⟨fun w' hSw => ?_, ?_⟩
          · go_simp
            with_reducible rfl
          (try simp only [act_put, act_put_none, List.set_cons_zero, List.set_cons_succ])
          refine held_take (i := 10) (by simp only [List.getElem?_toArray, List.getElem?_cons_succ, List.getElem?_cons_zero]; rfl) (by decide +kernel) (by decide +kernel) (by decide +kernel) (by exact fun _ _ _ _ h => h) hS (by rfl) ?_
          apply Exists.intro
          refine ⟨fun w' hSw => ?_, ?_⟩
          · go_simp
            with_reducible rfl
          (try simp only [act_put, act_put_none, List.set_cons_zero, List.set_cons_succ])
          refine wpAnyH_ready (rs := [11]) (by decide +kernel) (by simp) ?_
          refine AllReadyH.cons (i := 11) (by simp only [List.getElem?_toArray, List.getElem?_cons_succ, List.getElem?_cons_zero]; rfl) (fun K hK => ?_) ?_
          · go_simp
            refine hK.out _ _ trivial (fun _ => ?_)
            clear hK K
            (try simp only [act_put, act_put_none, List.set_cons_zero, List.set_cons_succ])
            refine wpAnyH_done (by decide +kernel) ?_ _
            go_wp2_with fail
            go_ret
            have e6 : (ps ++ [t]).length = ps.length + 1 := by simp
            rw [e6] at HO6 HD6
            have hbt : Bt q w6 (w6.setCell ⟨q, 1, none⟩ (.slice A6 (ps.length + 1) c6)) := Bt.setCell _ _ _ _
            have hno : NoBy w6 q := by
              obtain ⟨A7, c7, V7, rfl, _⟩ := J0.out.tx.texts
              intro j y
              rw [cell_of_rowAt HR6.out]
              rcases j with _ | _ | j <;> simp [bc]
            refine ⟨rfl, ⟨_, (rowAt_setCell_same 1 _ HR6.out), HO6.out.off HR6.out (by decide) hno hbt, HD6.out.off hno hbt hne.symm, r4, r5⟩, HB6.out.trans (Fr.bt hbt r4)⟩
          exact AllReadyH.nil
        exact AllReadyH.nil
      exact AllReadyH.nil
    exact AllReadyH.nil
  refine AllReadyH.cons (i := 6) (by simp only [List.getElem?_toArray, List.getElem?_cons_succ, List.getElem?_cons_zero]; rfl) (fun K hK => ?_) ?_
  · go_simp
    go_at_call 36
    refine (clone_bytes A t c _ HT.out hA'.out (by omega)).mono ?_
    rintro e w5 ⟨v5, rfl, hown, hb⟩
    obtain ⟨A5, c5, rfl, i1, i2, i3, i4⟩ := hown.isBy
    have HB5 := Lib.hid (HB.out.then hb)
    have hsz5 := HB.out.size
    have HD5 := Lib.hid (HD.out.below hb)
    have J5 := Lib.hid (And.intro (rowKeep hb J.out.1) (J.out.2.below hb))
    have hlt4 := J.out.2.tx.lt
    have hap : t ≠ [] → ∀ x, A5 = some x → v0.ownBlock ≠ some x.block ∧ X x.block := fun _ x hx => ⟨fun e => by
      have h1 := hlt4 _ e
      have h2 := i4 x hx
      omega, hXf _ (by have h2 := i4 x hx; omega)⟩
    have HI := Lib.hid i1
    have I3 := Lib.hid i3
    have I2 := Lib.hid i2
    have HAP := Lib.hid hap
    clear hown hb i1 i2 i3 i4 hlt4 hap hsz5 J HD HT HB
    clear W1
    have HB := HB5
    have HD := HD5
    have J := J5
    clear HB5 HD5 J5
    rename World => W1
    go_simp
    refine hK.out _ _ trivial (fun _ => ?_)
    clear hK K
    (try simp only [act_put, act_put_none, List.set_cons_zero, List.set_cons_succ])
    refine wpAnyH_ready (rs := [4, 7]) (by decide +kernel) (by simp) ?_
    refine AllReadyH.cons (i := 4) (by simp only [List.getElem?_toArray, List.getElem?_cons_succ, List.getElem?_cons_zero]; rfl) (fun K hK => ?_) ?_
    · have d1 : W1.cell? ⟨q, 1, none⟩ = some v0 := by rw [cell_of_rowAt J.out.1]; rfl
      go_simp
      refine hK.out _ _ trivial (fun _ => ?_)
      clear hK K d1
      (try simp only [act_put, act_put_none, List.set_cons_zero, List.set_cons_succ])
      refine wpAnyH_ready (rs := [7]) (by decide +kernel) (by simp) ?_
      refine AllReadyH.cons (i := 7) (by simp only [List.getElem?_toArray, List.getElem?_cons_succ, List.getElem?_cons_zero]; rfl) (fun K hK => ?_) ?_
      · go_simp
        refine hK.out _ _ trivial (fun _ => ?_)
        clear hK K
        (try simp only [act_put, act_put_none, List.set_cons_zero, List.set_cons_succ])
        refine wpAnyH_ready (rs := [8]) (by decide +kernel) (by simp) ?_
        refine AllReadyH.cons (i := 8) (by simp only [List.getElem?_toArray, List.getElem?_cons_succ, List.getElem?_cons_zero]; rfl) (fun K hK => ?_) ?_
        · rw [if_pos (by rfl)]
          refine wp_append_textX _ _ rfl _ ps t A5 t.length c5 J.out.2 rfl rfl rfl HI.out rfl I3.out I2.out HAP.out (by omega) (fun g hg => hXf g (Nat.le_trans HB.out.size hg)) ?_
          intro v6 w6 ho6 hg6 hv6
          obtain ⟨A6, c6, V6, hv6e, _⟩ := ho6.tx.texts
          subst hv6e
          obtain ⟨j1, j2⟩ := J.out
          have hqv : v0.ownBlock ≠ some q := fun e => by
            obtain ⟨cur, h6⟩ := j2.tx.block e
            exact rowAt_ne h6 j1 (by decide) rfl
          have r6 : rowAt w6 q = some (#[.pointer (some ⟨p, 0, none⟩), v0], 67) := (rowAt_of_heap (hg6.block q (rowAt_lt j1) (fun e => hqv e.symm))).trans j1
          have HD6 := Lib.hid (HD.out.grownX j2 hg6 hv6)
          have HB6 := Lib.hid (HB.out.trans (Fr.grown hg6 (by obtain ⟨_, _, _, h⟩ := j2; exact h)))
          have d1 : w6.cell? ⟨q, 1, none⟩ = some v0 := by rw [cell_of_rowAt r6]; rfl
          have f1 : w6.frozen? ⟨q, 1, none⟩ = false := frozen_of_rowAt r6 1
          have HO6 := Lib.hid ho6
          have HR6 := Lib.hid r6
          have hs6 := HB6.out.size
          clear ho6 hg6 hv6 j1 j2 r6 J HD HB
          refine hK.out _ _ trivial (fun _ => ?_)
          clear hK K
          (try simp only [act_put, act_put_none, List.set_cons_zero, List.set_cons_succ])
          refine held_take (i := 9) (by simp only [List.getElem?_toArray, List.getElem?_cons_succ, List.getElem?_cons_zero]; rfl) (by decide +kernel) (by decide +kernel) (by decide +kernel) (by exact fun _ _ _ _ h => h) hS (by rfl) ?_
          apply Exists.intro
          refine ⟨fun w' hSw => ?_, ?_⟩
          · go_simp
            with_reducible rfl
          (try simp only [act_put, act_put_none, List.set_cons_zero, List.set_cons_succ])
          refine held_take (i := 10) (by simp only [List.getElem?_toArray, List.getElem?_cons_succ, List.getElem?_cons_zero]; rfl) (by decide +kernel) (by decide +kernel) (by decide +kernel) (by exact fun _ _ _ _ h => h) hS (by rfl) ?_
          apply Exists.intro
          refine ⟨fun w' hSw => ?_, ?_⟩
          · go_simp
            with_reducible rfl
          (try simp only [act_put, act_put_none, List.set_cons_zero, List.set_cons_succ])
          refine wpAnyH_ready (rs := [11]) (by decide +kernel) (by simp) ?_
          refine AllReadyH.cons (i := 11) (by simp only [List.getElem?_toArray, List.getElem?_cons_succ, List.getElem?_cons_zero]; rfl) (fun K hK => ?_) ?_
          · go_simp
            refine hK.out _ _ trivial (fun _ => ?_)
            clear hK K
            (try simp only [act_put, act_put_none, List.set_cons_zero, List.set_cons_succ])
            refine wpAnyH_done (by decide +kernel) ?_ _
            go_wp2_with fail
            go_ret
            have e6 : (ps ++ [t]).length = ps.length + 1 := by simp
            rw [e6] at HO6 HD6
            have hbt : Bt q w6 (w6.setCell ⟨q, 1, none⟩ (.slice A6 (ps.length + 1) c6)) := Bt.setCell _ _ _ _
            have hno : NoBy w6 q := by
              obtain ⟨A7, c7, V7, rfl, _⟩ := J0.out.tx.texts
              intro j y
              rw [cell_of_rowAt HR6.out]
              rcases j with _ | _ | j <;> simp [bc]
            refine ⟨rfl, ⟨_, (rowAt_setCell_same 1 _ HR6.out), HO6.out.off HR6.out (by decide) hno hbt, HD6.out.off hno hbt hne.symm, r4, r5⟩, HB6.out.trans (Fr.bt hbt r4)⟩
          exact AllReadyH.nil
        exact AllReadyH.nil
      exact AllReadyH.nil
    refine AllReadyH.cons (i := 7) (by simp only [List.getElem?_toArray, List.getElem?_cons_succ, List.getElem?_cons_zero]; rfl) (fun K hK => ?_) ?_
    · go_simp
      refine hK.out _ _ trivial (fun _ => ?_)
      clear hK K
      (try simp only [act_put, act_put_none, List.set_cons_zero, List.set_cons_succ])
      refine wpAnyH_ready (rs := [4]) (by decide +kernel) (by simp) ?_
      refine AllReadyH.cons (i := 4) (by simp only [List.getElem?_toArray, List.getElem?_cons_succ, List.getElem?_cons_zero]; rfl) (fun K hK => ?_) ?_
      · have d1 : (W1.alloc (.cells #[.slice A5 t.length c5] 24)).cell? ⟨q, 1, none⟩ = some v0 := by rw [cell_of_rowAt (rowPast J.out.1)]; rfl
        go_simp
        refine hK.out _ _ trivial (fun _ => ?_)
        clear hK K d1
        (try simp only [act_put, act_put_none, List.set_cons_zero, List.set_cons_succ])
        refine wpAnyH_ready (rs := [8]) (by decide +kernel) (by simp) ?_
        refine AllReadyH.cons (i := 8) (by simp only [List.getElem?_toArray, List.getElem?_cons_succ, List.getElem?_cons_zero]; rfl) (fun K hK => ?_) ?_
        · rw [if_pos (by rfl)]
          refine wp_append_textX _ _ rfl _ ps t A5 t.length c5 J.out.2 rfl rfl rfl HI.out rfl I3.out I2.out HAP.out (by omega) (fun g hg => hXf g (Nat.le_trans HB.out.size hg)) ?_
          intro v6 w6 ho6 hg6 hv6
          obtain ⟨A6, c6, V6, hv6e, _⟩ := ho6.tx.texts
          subst hv6e
          obtain ⟨j1, j2⟩ := J.out
          have hqv : v0.ownBlock ≠ some q := fun e => by
            obtain ⟨cur, h6⟩ := j2.tx.block e
            exact rowAt_ne h6 j1 (by decide) rfl
          have r6 : rowAt w6 q = some (#[.pointer (some ⟨p, 0, none⟩), v0], 67) := (rowAt_of_heap (hg6.block q (rowAt_lt j1) (fun e => hqv e.symm))).trans j1
          have HD6 := Lib.hid (HD.out.grownX j2 hg6 hv6)
          have HB6 := Lib.hid (HB.out.trans (Fr.grown hg6 (by obtain ⟨_, _, _, h⟩ := j2; exact h)))
          have d1 : w6.cell? ⟨q, 1, none⟩ = some v0 := by rw [cell_of_rowAt r6]; rfl
          have f1 : w6.frozen? ⟨q, 1, none⟩ = false := frozen_of_rowAt r6 1
          have HO6 := Lib.hid ho6
          have HR6 := Lib.hid r6
          have hs6 := HB6.out.size
          clear ho6 hg6 hv6 j1 j2 r6 J HD HB
          refine hK.out _ _ trivial (fun _ => ?_)
          clear hK K
          (try simp only [act_put, act_put_none, List.set_cons_zero, List.set_cons_succ])
          refine held_take (i := 9) (by simp only [List.getElem?_toArray, List.getElem?_cons_succ, List.getElem?_cons_zero]; rfl) (by decide +kernel) (by decide +kernel) (by decide +kernel) (by exact fun _ _ _ _ h => h) hS (by rfl) ?_
          apply Exists.intro
          refine ⟨fun w' hSw => ?_, ?_⟩
          · go_simp
            with_reducible rfl
          (try simp only [act_put, act_put_none, List.set_cons_zero, List.set_cons_succ])
          refine held_take (i := 10) (by simp only [List.getElem?_toArray, List.getElem?_cons_succ, List.getElem?_cons_zero]; rfl) (by decide +kernel) (by decide +kernel) (by decide +kernel) (by exact fun _ _ _ _ h => h) hS (by rfl) ?_
          apply Exists.intro
          refine ⟨fun w' hSw => ?_, ?_⟩
          · go_simp
            with_reducible rfl
          (try simp only [act_put, act_put_none, List.set_cons_zero, List.set_cons_succ])
          refine wpAnyH_ready (rs := [11]) (by decide +kernel) (by simp) ?_
          refine AllReadyH.cons (i := 11) (by simp only [List.getElem?_toArray, List.getElem?_cons_succ, List.getElem?_cons_zero]; rfl) (fun K hK => ?_) ?_
          · go_simp
            refine hK.out _ _ trivial (fun _ => ?_)
            clear hK K
            (try simp only [act_put, act_put_none, List.set_cons_zero, List.set_cons_succ])
            refine wpAnyH_done (by decide +kernel) ?_ _
            go_wp2_with fail
            go_ret
            have e6 : (ps ++ [t]).length = ps.length + 1 := by simp
            rw [e6] at HO6 HD6
            have hbt : Bt q w6 (w6.setCell ⟨q, 1, none⟩ (.slice A6 (ps.length + 1) c6)) := Bt.setCell _ _ _ _
            have hno : NoBy w6 q := by
              obtain ⟨A7, c7, V7, rfl, _⟩ := J0.out.tx.texts
              intro j y
              rw [cell_of_rowAt HR6.out]
              rcases j with _ | _ | j <;> simp [bc]
            refine ⟨rfl, ⟨_, (rowAt_setCell_same 1 _ HR6.out), HO6.out.off HR6.out (by decide) hno hbt, HD6.out.off hno hbt hne.symm, r4, r5⟩, HB6.out.trans (Fr.bt hbt r4)⟩
          exact AllReadyH.nil
        exact AllReadyH.nil
      exact AllReadyH.nil
    exact AllReadyH.nil
  exact AllReadyH.nil
/-! Scan, Open and Compact, all in blocks that meet X. -/
theorem wl_append_textX {X : Nat → Prop} {ops : Array Oper} {rest : List Oper} {o : Oper} {a : Act} {w : World} {Q : Exit → Act → World → Prop} (hgd : o.guard = none) (s x : Operand)
    (ho : o.op = .call { callee := .builtin .append, args := #[s, x], argTypes := #[22, 22] }) (v : Value) (ps : List (List UInt8)) (p : List UInt8) (A : Option Addr) (n c : Nat)
    (hown : OwnTxX X w v ps) (hs : a.eval s = v) {q : Nat} (hx : a.eval x = .slice (some ⟨q, 0, none⟩) 1 1) (hq : q = w.heap.size) (hy : IsBy w A p) (hn : p.length = n) (hpc : p.length ≤ c) (hA : A = none → c = 0)
    (hap : p ≠ [] → ∀ y, A = some y → v.ownBlock ≠ some y.block ∧ X y.block) (hlen : ps.length ≤ 1000000000) (hXf : ∀ g, w.heap.size ≤ g → X g)
    (h : ∀ v' w', OwnTxX X w' v' (ps ++ [p]) → w.grownBy w' v.ownBlock → wpList Tryd.prog ops Q rest (a.put o.dst v') w') : wpList Tryd.prog ops Q (o :: rest) a (w.alloc (.cells #[.slice A n c] 24)) :=
  wpList_plain hgd fun K hK => wp_append_textX s x ho v ps p A n c hown hs hx hq hy hn hpc hA hap hlen hXf fun v' w' h1 h2 _ => hK _ _ (h v' w' h1 h2)
theorem OwnTxX.nil (X : Nat → Prop) (w : World) : OwnTxX X w (.slice none 0 0) [] := ⟨fun _ => (none, 0), ⟨World.ownsRow_nil w 0 _ _, fun i hi => absurd hi (by simp)⟩, fun i hi => absurd hi (by simp), fun k hk => by cases hk⟩
theorem OwnTxX.grownB {X : Nat → Prop} {w w' : World} {v : Value} {ps : List (List UInt8)} (h : OwnTxX X w v ps) (hg : w.grownBy w' v.ownBlock) {B : Nat} (hB : ∀ k, X k → B ≤ k) (hs : B ≤ w.heap.size) : Below B w w' := by
  obtain ⟨V, _, _, h3⟩ := h
  exact ⟨hg.os, hg.tape, hg.output, hg.size, fun k hk => hg.block k (by omega) (fun e => by have := hB _ (h3 k e.symm); omega)⟩
def ScanX (l : List UInt8) (w : World) (e : Ending) (w' : World) : Prop :=
  ∃ v at_ ps, e = .returned (.tuple #[v, .int .i64 (at_ : Nat)]) ∧ ScanIs l at_ ps ∧ OwnTxX (fun k => w.heap.size ≤ k) w' v ps ∧ Below w.heap.size w w'
theorem ScanX.mk {l : List UInt8} {w w' : World} {e : Ending} {v : Value} {k : Nat} (he : e = .returned (.tuple #[v, .int .i64 ((stA l k).1 : Nat)])) (hs : takeE (l.drop (stA l k).1) ≠ 0) (ho : OwnTxX (fun k => w.heap.size ≤ k) w' v (stA l k).2) (hb : Below w.heap.size w w') : ScanX l w e w' :=
  ⟨v, _, _, he, ⟨k, rfl, hs⟩, ho, hb⟩
set_option maxHeartbeats 4000000 in
theorem fscan_anyX (A : Option Addr) (l : List UInt8) (c : Nat) (w : World) (hN : Nib w) (hl : IsBy w A l) (hlc : l.length ≤ c) (hlen : l.length ≤ 1000000) :
    Calls Tryd.prog 31 #[.slice A l.length c] w (ScanX l w) := by
  have HN := Lib.hid hN
  have HL := Lib.hid hl
  clear hN hl
  go_enter Tryd.func31, Tryd.ntmps31
  go_wp2_with fail
  go_step3
  go_wp2_with fail
  go_step3
  go_wp2_with fail
  go_loopw [4, 5] (fun v i w' => ∃ (k : Nat) (v' : Value), v' = v ∧ i = .int .i64 ((stA l k).1 : Nat) ∧ OwnTxX (fun k => w.heap.size ≤ k) w' v' (stA l k).2 ∧ Below w.heap.size w w') (fun _ i _ => l.length - (intOf i).toNat)
  case atStart => exact ⟨0, _, rfl, rfl, OwnTxX.nil _ _, Below.refl _ _⟩
  case round =>
    rename World => wr
    obtain ⟨k, v, rfl, rfl, hown, hb⟩ := hrel
    obtain ⟨hk1, hk2⟩ := stA_le l k
    have HO := Lib.hid hown
    have HB := Lib.hid hb
    have HN2 := Lib.hid (HN.out.below hb)
    have HL2 := Lib.hid (HL.out.below hb)
    have hlt := hown.tx.lt
    have HLT := Lib.hid hlt
    clear hown hb hlt
    have HS : Hid (stA l (k + 1) = if takeE (l.drop (stA l k).1) = 0 then ((stA l k).1 + (8 + numL (l.drop (stA l k).1)), (stA l k).2 ++ [payL (l.drop (stA l k).1)]) else stA l k) := Lib.hid rfl
    have HM := @ScanX.mk l w
    have HMK := Lib.hid (fun w' e v => @ScanX.mk l w w' e v k)
    clear HM
    generalize (stA l k).1 = at_ at *
    generalize (stA l k).2 = ps at *
    go_wp2_with (refine bytes_slice_from rfl _ _ rfl A l.length c at_ rfl rfl hk1 ?_)
    intro A' hA1 hA2
    have HD := Lib.hid (HL2.out.drop at_ (fun h => hA1 (by omega)))
    have hdl : (l.drop at_).length = l.length - at_ := by simp
    clear hA1 hA2
    go_wp2_with fail
    refine (ftake_at A' (l.drop at_) _ _ wr HN2.out HD.out hdl (by omega) (by omega)).mono ?_
    rintro e w2 ⟨v2, rfl, hown, hb⟩
    have HB2 := Lib.hid (bthen HB.out hb)
    have HO2 := Lib.hid (HO.out.below hb)
    by_cases htk : takeE (l.drop at_) = 0
    · obtain ⟨t1, t2, t3, _⟩ := take_good htk
      rw [t2, htk]
      rw [t1] at hown
      have HS2 := Lib.hid (HS.out.trans (if_pos htk))
      obtain ⟨A2, c2, rfl, i1, i2, i3, i4⟩ := hown.isBy
      have HI := Lib.hid i1
      have hap : payL (l.drop at_) ≠ [] → ∀ y, A2 = some y → v.ownBlock ≠ some y.block ∧ w.heap.size ≤ y.block := fun _ y hy => by
        have h2 := i4 y hy
        have h3 := HB.out.size
        refine ⟨fun e => ?_, by omega⟩
        have h1 := HLT.out _ e
        omega
      have HAP := Lib.hid hap
      have HI3 := Lib.hid i3
      rw [hdl] at t3
      clear hap hown hb i1 i4 i3 t1 t2 htk HS HMK HLT
      generalize payL (l.drop at_) = y at *
      generalize numL (l.drop at_) = m at *
      go_wp2_with (at_builtin; refine wl_append_textX rfl _ _ rfl _ ps y A2 y.length c2 HO2.out rfl rfl rfl HI.out rfl HI3.out i2 HAP.out ?c1 (fun g hg => Nat.le_trans HB2.out.size hg) ?_)
      case c1 => omega
      intro v3 w3 hown hg
      have HO3 := Lib.hid hown
      have hb := HO2.out.grownB hg (B := w.heap.size) (fun _ h => h) HB2.out.size
      have HB3 := Lib.hid (HB2.out.trans hb)
      clear hown hb hg
      go_wp2_with fail
      go_roundw
      case rel => exact ⟨k + 1, _, rfl, by rw [HS2.out]; go_num, by rw [HS2.out]; exact HO3.out, HB3.out⟩
      case measure => simp [intOf]; omega
    · have hne : takeE (l.drop at_) ≠ 0 := htk
      have HNE := Lib.hid htk
      clear hown hb
      generalize takeE (l.drop at_) = r at *
      go_wp2_with fail
      rw [Exit.noGoto_ret]
      go_ret2
      exact HMK.out _ _ _ rfl HNE.out HO2.out HB2.out
set_option maxHeartbeats 2000000 in
theorem wopen_okX {X : Nat → Prop} {w : World} {p : Nat} {s f : Int} {b : List UInt8} {at_ : Nat} {ps : List (List UInt8)} (h : DKX (fun A => b ≠ [] → ∀ x, A = some x → X x.block) w p s b f) (hN : Nib w) (hlen : b.length ≤ 1000000) (hs : ScanIs b at_ ps) (ht : takeE (b.drop at_) = 3) (hp : X p) (hXf : ∀ g, w.heap.size ≤ g → X g) :
    Calls Tryd.prog 14 #[.pointer (some ⟨p, 0, none⟩)] w fun e w' => ∃ q, e = .returned (.tuple #[.pointer (some ⟨q, 0, none⟩), .int .i64 0]) ∧ LGX X w' q p s (b.take at_) (at_ : Nat) ps ∧ Fr X w w' := by
  have H := Lib.hid h
  have HN := Lib.hid hN
  have HS := Lib.hid hs
  have hle := hs.le.1
  clear h hN hs
  go_enter Tryd.func14, Tryd.ntmps14
  go_wp2_with fail
  refine (dbytes_any H.out.dk (by omega)).mono ?_
  rintro e w1 ⟨g, rfl, hr, hg, hb⟩
  have HI1 := Lib.hid (isBy_full hr)
  have HB1 := Lib.hid hb
  have HN1 := Lib.hid (HN.out.below hb)
  have H1 := Lib.hid (H.out.below hb)
  clear hr hb
  go_wp2_with fail
  refine (fscan_anyX (some ⟨g, 0, none⟩) b b.length w1 HN1.out HI1.out (Nat.le_refl _) (by omega)).mono ?_
  rintro e w2 ⟨v, a2, p2, rfl, hs2, hown, hb⟩
  obtain ⟨rfl, rfl⟩ := hs2.one HS.out
  have HB2 := Lib.hid (bthen HB1.out hb)
  have HN2 := Lib.hid (HN1.out.below hb)
  have HI2 := Lib.hid ((HI1.out.below hb).drop a2 (A' := some ⟨g, a2, none⟩) (fun _ => by simp [Addr.add_lit]))
  have hd2 : DKX (ApartX X v (b.take a2)) w2 p s b f := (H1.out.mono (Y := ApartX X v (b.take a2)) (fun A hA hXp hl x hx => ⟨fun e => by
    obtain ⟨b1, o1, g1, g2⟩ := hA 0 (by rcases b with _ | ⟨y, ys⟩ <;> simp_all)
    have hlt : b1 < w1.heap.size := World.block_lt_of_cell? _ _ g2
    rw [hx] at g1
    injection g1 with g1
    have hxb : x.block = b1 := by rw [g1]
    obtain ⟨V, _, _, h3⟩ := hown
    have := h3 _ e
    dsimp only at this
    omega, hXp (by rintro rfl; simp at hl) x hx⟩)).below hb
  have HD2 := Lib.hid hd2
  have HO2 := Lib.hid hown
  obtain ⟨Av, cv, Vv, rfl, _⟩ := hown.tx.texts
  have hdl : (b.drop a2).length = b.length - a2 := by simp
  clear hb hown hs2 hd2
  go_wp2_with (refine bytes_slice_from rfl _ _ rfl (some ⟨g, 0, none⟩) b.length b.length a2 rfl rfl hle ?_)
  intro A' hA1 hA2
  have HI3 : Hid (IsBy w2 A' (b.drop a2)) := Lib.hid (fun i hi => by
    have h1 : a2 < b.length := by omega
    rw [hA1 h1]
    have := HI2.out i hi
    simpa [Addr.add_lit] using this)
  clear hA1 hA2
  go_wp2_with fail
  refine (ftake_len A' (b.drop a2) _ _ w2 HN2.out HI3.out hdl (by omega) (by omega)).mono ?_
  rintro e w3 ⟨v3, rfl, _, hb⟩
  rw [ht]
  have HB3 := Lib.hid (bthen HB2.out hb)
  have HD3 := Lib.hid (HD2.out.below hb)
  have HO3 := Lib.hid ((HO2.out.below hb).mono (Y := X) (fun k _ hk => hXf k (Nat.le_trans HB1.out.size hk)))
  clear hb HD2 HO2 HI3 HI2
  generalize takeN (b.drop a2) = tn at *
  have HC := Lib.hid (dcut_okX HD3.out a2 hle)
  go_wp2_with fail
  refine HC.out.mono ?_
  rintro e w4 ⟨rfl, hd4, hb4⟩
  obtain ⟨cc, r6⟩ := HD3.out.dk.row
  have HO4 := Lib.hid (HO3.out.off r6 (by decide) HD3.out.dk.noBy hb4)
  have HD4 := Lib.hid hd4
  have HBT4 := Lib.hid ((Fr.of (X := X) HB3.out).trans (Fr.bt hb4 hp))
  clear hd4 hb4 r6 HC
  go_wp2_with fail
  refine (dsync_anyX HD4.out).mono ?_
  rintro e w5 ⟨rfl, hd5, hb5⟩
  obtain ⟨cc, r6⟩ := HD4.out.dk.row
  have HO5 := Lib.hid (HO4.out.off r6 (by decide) HD4.out.dk.noBy hb5)
  have hla : (b.take a2).length = a2 := by rw [List.length_take]; omega
  rw [hla] at hd5
  have HD5 := Lib.hid hd5
  have HBT5 := Lib.hid (HBT4.out.trans (Fr.bt hb5 hp))
  have hs5 := HBT5.out.size
  clear hd5 hb5 r6 hla
  go_wp2_with fail
  go_ret2
  have hal : Below w5.heap.size w5 (w5.alloc (.cells #[.pointer (some ⟨p, 0, none⟩), .slice Av p2.length cv] 67)) := (Below.refl _ _).alloc (Nat.le_refl _) _
  have hbt := HBT5.out.then hal
  exact ⟨w5.heap.size, rfl, ⟨_, rowAt_alloc_at _ _ _ _ rfl, HO5.out.below hal, HD5.out.below hal, hXf _ hs5, hp⟩, hbt⟩
theorem OwnTxX.one {X : Nat → Prop} {w : World} {g c : Nat} {A : Option Addr} {t : List UInt8} (hr : rowAt w g = some (#[.slice A t.length c], 24)) (hg : X g) (ht : IsBy w A t) (hc : t.length ≤ c) (hA : A = none → c = 0) (hap : t ≠ [] → ∀ x, A = some x → x.block ≠ g ∧ X x.block) :
    OwnTxX X w (.slice (some ⟨g, 0, none⟩) 1 1) [t] := by
  refine ⟨fun _ => (A, c), ⟨⟨rfl, .inr ⟨g, 1, _, rfl, Nat.zero_le _, rowAt_iff.1 hr, Nat.le_refl _, by unfold maxLen; omega, rfl, rfl⟩⟩, fun i hi => ?_⟩, fun i hi => ?_, fun k hk => ?_⟩
  · obtain rfl : i = 0 := by simpa using hi
    refine ⟨ht, hc, hA, fun hn x hx e => ?_⟩
    simp only [Value.ownBlock, Option.some.injEq] at e
    exact (hap hn x hx).1 e.symm
  · obtain rfl : i = 0 := by simpa using hi
    exact fun hn x hx => (hap hn x hx).2
  · simp only [Value.ownBlock, Option.some.injEq] at hk
    exact hk ▸ hg
set_option maxHeartbeats 2000000 in
theorem wcompact_okX {X : Nat → Prop} {w : World} {q p : Nat} {s f : Int} {b : List UInt8} {ps : List (List UInt8)} (h : LGX X w q p s b f ps) (hN : Nib w) (hn : ps ≠ []) (hlen : ps.length ≤ 1000000) (hl : ∀ t, t ∈ ps → t.length ≤ 32768) (hs : ((putL (ps.getD (ps.length - 1) [])).length : Int) ≤ s) (hXf : ∀ g, w.heap.size ≤ g → X g) :
    Calls Tryd.prog 20 #[.pointer (some ⟨q, 0, none⟩)] w fun e w' => e = .returned (.int .i64 0) ∧ LGX X w' q p s (putL (ps.getD (ps.length - 1) [])) ((putL (ps.getD (ps.length - 1) [])).length : Nat) [ps.getD (ps.length - 1) []] ∧ Fr X w w' := by
  have H := Lib.hid h
  have HN := Lib.hid hN
  have HLA := Lib.hid (wlast_any h.lg hn hlen (fun t ht => by have := hl t ht; omega))
  have hpos := List.length_pos_iff.2 hn
  have hmem : ps.getD (ps.length - 1) [] ∈ ps := by simp [List.getD, List.getElem?_eq_getElem (show ps.length - 1 < ps.length by omega)]
  have hle := hl _ hmem
  generalize ps.getD (ps.length - 1) [] = t at *
  clear h hN hl hmem hpos hn
  go_enter Tryd.func20, Tryd.ntmps20
  go_wp2_with fail
  refine HLA.out.mono ?_
  rintro e w1 ⟨v1, rfl, hown, hb⟩
  obtain ⟨A1, c1, rfl, i1, i2, i3, i4⟩ := hown.isBy
  have HB1 := Lib.hid (Fr.of (X := X) hb)
  have H1 := Lib.hid (H.out.below hb)
  have HN1 := Lib.hid (HN.out.below hb)
  have HI1 := Lib.hid i1
  have I2 := Lib.hid i2
  have HX1 : Hid (∀ x, A1 = some x → X x.block) := Lib.hid (fun x hx => hXf _ (i4 x hx).1)
  clear hown hb i1 i2 i4
  go_wp2_with fail
  refine (fput_any A1 t c1 w1 HN1.out HI1.out i3 I2.out hle).mono ?_
  rintro e w2 ⟨v2, rfl, hown, hb⟩
  obtain ⟨A2, c2, rfl, j1, j2, j3, j4⟩ := hown.isBy
  have hpl := putL_len t
  have HB2 := Lib.hid (HB1.out.then hb)
  have H2 := Lib.hid (H1.out.below hb)
  have HI2 := Lib.hid (HI1.out.below hb)
  have HJ2 := Lib.hid j1
  obtain ⟨v0, r1, r2, r3, r4, r5⟩ := H2.out
  have d0 : w2.cell? ⟨q, 0, none⟩ = some (.pointer (some ⟨p, 0, none⟩)) := by rw [cell_of_rowAt r1]; rfl
  obtain ⟨m, hm⟩ : ∃ m, (putL t).length = m := ⟨_, rfl⟩
  have HF := Lib.hid (dswap_okX (Y := fun A => ∀ x, A = some x → X x.block) (t := putL t) (B := A2) (c' := c2) r3 (fun x hx y hy => by injection hy with hy; subst hy; exact hXf _ (Nat.le_trans HB2.out.size hx)) HJ2.out j3 (by omega) hs)
  rw [hm] at HF
  rw [hm]
  have HM := Lib.hid hm
  clear hown hb j1 j2 r1 r2 r3 hm hs hpl
  go_wp2_with fail
  refine HF.out.mono ?_
  rintro e w3 ⟨rfl, hd3, hb3⟩
  have hne := H2.out.lg.ne
  obtain ⟨v0, r1, r2, r3, _⟩ := H2.out
  have k1 := (hb3.row (rowAt_lt r1) hne).trans r1
  have HB3 := Lib.hid (HB2.out.trans (Fr.bt hb3 r5))
  have HI3 := Lib.hid (isBy_off HI2.out r3.dk.noBy hb3)
  have hv0 : ∃ A0 n0 c0, v0 = .slice A0 n0 c0 := by
    obtain ⟨A, c, V, hv, _⟩ := r2.tx.texts
    exact ⟨A, _, c, hv⟩
  obtain ⟨A0, n0, c0, rfl⟩ := hv0
  have hq3 := rowAt_lt k1
  have hqp : q ≠ w3.heap.size := by omega
  have d1 : w3.cell? ⟨q, 1, none⟩ = some (.slice A0 n0 c0) := by rw [cell_of_rowAt k1]; rfl
  have k4 : rowAt (w3.alloc (.cells #[.slice A1 t.length c1] 24)) q = some (#[.pointer (some ⟨p, 0, none⟩), .slice A0 n0 c0], 67) := rowPast k1
  have d1' : (w3.alloc (.cells #[.slice A1 t.length c1] 24)).cell? ⟨q, 1, none⟩ = some (.slice A0 n0 c0) := by rw [cell_of_rowAt k4]; rfl
  have f1 : (w3.alloc (.cells #[.slice A1 t.length c1] 24)).frozen? ⟨q, 1, none⟩ = false := frozen_of_rowAt k4 1
  have hal : Below w3.heap.size w3 (w3.alloc (.cells #[.slice A1 t.length c1] 24)) := (Below.refl _ _).alloc (Nat.le_refl _) _
  have hrg : rowAt (w3.alloc (.cells #[.slice A1 t.length c1] 24)) w3.heap.size = some (#[.slice A1 t.length c1], 24) := rowAt_alloc_at _ _ _ _ rfl
  rw [← HM.out] at hd3
  have hd3' : DKX (ApartX X (.slice (some ⟨w3.heap.size, 0, none⟩) 1 1) (putL t)) w3 p s (putL t) ((putL t).length : Nat) := hd3.mono (Y := ApartX X (.slice (some ⟨w3.heap.size, 0, none⟩) 1 1) (putL t)) (fun A hA hAX hl x hx => ⟨fun e => by
    obtain ⟨b1, o1, g1, g2⟩ := hA 0 (List.length_pos_iff.2 hl)
    have hlt : b1 < w3.heap.size := World.block_lt_of_cell? _ _ g2
    rw [hx] at g1
    injection g1 with g1
    have hxb : x.block = b1 := by rw [g1]
    simp only [Value.ownBlock, Option.some.injEq] at e
    omega, hAX x hx⟩)
  have HD4 := Lib.hid (hd3'.below hal)
  have HI4 := Lib.hid (HI3.out.below hal)
  have HB4 := Lib.hid (HB3.out.then hal)
  have K4 := Lib.hid k4
  have HRG := Lib.hid hrg
  have hsz : w3.heap.size < (w3.alloc (.cells #[.slice A1 t.length c1] 24)).heap.size := rowAt_lt hrg
  clear hd3 hd3' hb3 r1 r2 r3 k1 d1 k4 hal hrg HF d0
  go_wp2_with fail
  go_ret
  have hb3s := HB3.out.size
  have hw4 : (w3.setCell ⟨q, 1, none⟩ (.slice (some ⟨w3.heap.size, 0, none⟩) 1 1)).alloc (.cells #[.slice A1 t.length c1] 24) = (w3.alloc (.cells #[.slice A1 t.length c1] 24)).setCell ⟨q, 1, none⟩ (.slice (some ⟨w3.heap.size, 0, none⟩) 1 1) := by rw [setCell_alloc, if_neg hqp]
  rw [hw4]
  clear hw4
  generalize w3.alloc (.cells #[.slice A1 t.length c1] 24) = w4 at *
  have hbt : Bt q w4 (w4.setCell ⟨q, 1, none⟩ (.slice (some ⟨w3.heap.size, 0, none⟩) 1 1)) := Bt.setCell _ _ _ _
  have hno : NoBy w4 q := by
    intro j y
    rw [cell_of_rowAt K4.out]
    rcases j with _ | _ | j <;> simp [bc]
  have ho4 : OwnTxX X w4 (.slice (some ⟨w3.heap.size, 0, none⟩) 1 1) [t] := OwnTxX.one HRG.out (hXf _ (by omega)) HI4.out i3 I2.out (fun hn x hx => ⟨fun e => by
    obtain ⟨b1, o1, g1, g2⟩ := HI3.out 0 (List.length_pos_iff.2 hn)
    have := World.block_lt_of_cell? _ _ g2
    rw [hx] at g1
    injection g1 with g1
    have hxb : x.block = b1 := by rw [g1]
    dsimp only at this
    omega, HX1.out x hx⟩)
  refine ⟨rfl, ⟨_, rowAt_setCell_same 1 _ K4.out, ho4.off K4.out (by decide) hno hbt, HD4.out.off hno hbt hne.symm, r4, r5⟩, HB4.out.trans (Fr.bt hbt r4)⟩
end Go.Proofs.YtfnbcafilbafgaaDoor
