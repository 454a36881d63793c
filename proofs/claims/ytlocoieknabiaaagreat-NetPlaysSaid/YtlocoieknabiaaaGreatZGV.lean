/-
  Layer 15 (net): a net, and the row of what was sent beside it.
-/
import Derived.Test.YtlocoieknabiaaaGreatZMsgOps
import Derived.Test.YtlocoieknabiaaaGreatZGR
import Derived.Maps.AppendAt
import Derived.Test.YtlocoieknabiaaaGreatZAwake15
namespace Go.Proofs.YtlocoieknabiaaaGreat
set_option maxRecDepth 20000
open Go.RowKit
set_option linter.unusedSimpArgs false
set_option linter.unusedVariables false
/-- append to a row of the call's own, with the block that it lies in then. -/
theorem wl_append_rows3 {P : Program} {w : World} {base k n : Nat} {E : TypeId} {v : Value} {xs : List Value} {T : TypeId} {bytes : Nat} {z : Value} (hT : P.underlying T = some (.slice E)) (hi : (P.info? E).map (fun i => (i.zero, i.size, i.bytes)) = some (some z, k, bytes)) (hzc : z.cells.size = k) (hk : 0 < k)
    {ops : Array Oper} {rest : List Oper} {o : Oper} {a : Act} {Q : Exit → Act → World → Prop} (hgd : o.guard = none) (s x : Operand)
    (ho : o.op = .call { callee := .builtin .append, args := #[s, x], argTypes := #[T, T] }) (hs : a.eval s = v) (hown : w.ownsRow base E k v n xs)
    (ad : Addr) (m c : Nat) (ys : List Value) (hx : a.eval x = .slice (some ad) m c) (hl : ys.length = m * k) (hcell : ∀ j u, ys[j]? = some u → w.cell? (ad.add j) = some u)
    (h1 : ∀ u ∈ ys, u.oneCell' = true) (h63 : n + m ≤ 9223372036854775807) (hbytes : (n + m) * bytes ≤ 140737488355328) (hbase : base ≤ w.heap.size)
    (h : ∀ v' w', w'.ownsRow base E k v' (n + m) (xs ++ ys) → w.grownBy w' v.ownBlock → (v'.ownBlock = v.ownBlock ∨ v'.ownBlock = some w.heap.size) → wpList P ops Q rest (a.put o.dst v') w') : wpList P ops Q (o :: rest) a w := by
  obtain ⟨i0, hi0, hz0, hz1, hz2⟩ := info_parts hi
  exact wpList_append_own_at w hgd s x _ ho base E i0 z k bytes hT hi0 hz0 hz1 hz2 hzc hk v _ _ hs hown ad m c ys hx hl hcell h1 (by unfold maxLen; omega) hbytes hbase fun v' w' h2 h3 _ h5 => h v' w' h2 h3 h5
theorem grown_row {w w' : World} {r : Option Nat} (hg : w.grownBy w' r) {k : Nat} {x : Array Value × TypeId} (h : rowAt w k = some x) (hk : some k ≠ r) : rowAt w' k = some x :=
  (rowAt_of_heap (hg.block k (rowAt_lt h) hk)).trans h
theorem NTv.grown {X X' : Nat → Prop} {w w' : World} {g q : Nat} {room s c l d : Int} {A : Option Addr} {cap : Nat} {V : Nat → Option Addr × Nat} {ps : List (List UInt8)} {r : Option Nat} (h : NTv X w g q room A cap V ps s c l d) (hg : w.grownBy w' r)
    (hX : ∀ b, X b → some b ≠ r) (h1 : some g ≠ r) (h2 : some q ≠ r) (hXX : ∀ b, b < w.heap.size → X b → X' b) : NTv X' w' g q room A cap V ps s c l d := by
  have hcell : ∀ i, i < ps.length → ∀ x, A = some x → x.block < w.heap.size := fun i hi x hx => by
    obtain ⟨b, o, e1, e2⟩ := h.cell i hi
    rw [hx] at e1
    injection e1 with e1
    subst e1
    exact (show b < w.heap.size from World.block_lt_of_cell? w ⟨b, o + i, none⟩ e2)
  have hne : ∀ {i : Nat}, i < ps.length → ps ≠ [] := fun hi e => by rw [e] at hi; simp at hi
  refine ⟨grown_row hg h.row h1, grown_row hg h.book h2, h.lt, h.le, h.nil, h.big, h.off, fun i hi => ?_, fun i hi => ⟨fun j hj => ?_, (h.by_ i hi).2⟩, fun x hx hp => ?_, fun i hi h0 x hx => ?_⟩
  · obtain ⟨b, o, e1, e2⟩ := h.cell i hi
    exact ⟨b, o, e1, hg.cell e2 (show some b ≠ r from hX _ (h.sepA _ e1 (hne hi)))⟩
  · obtain ⟨b, o, e1, e2⟩ := (h.by_ i hi).1 j hj
    exact ⟨b, o, e1, hg.cell e2 (show some b ≠ r from hX _ (h.sepV i hi (by intro h0; rw [h0] at hj; simp at hj) _ e1))⟩
  · exact hXX _ (hcell 0 (by cases ps; exact absurd rfl hp; simp) x hx) (h.sepA x hx hp)
  · exact hXX _ (isBy_lt (h.by_ i hi).1 h0 x hx) (h.sepV i hi h0 x hx)
theorem NT.grown {X X' : Nat → Prop} {w w' : World} {g q : Nat} {room s c l d : Int} {ps : List (List UInt8)} {r : Option Nat} (h : NT X w g q room ps s c l d) (hg : w.grownBy w' r)
    (hX : ∀ b, X b → some b ≠ r) (h1 : some g ≠ r) (h2 : some q ≠ r) (hXX : ∀ b, b < w.heap.size → X b → X' b) : NT X' w' g q room ps s c l d := by
  obtain ⟨A, cap, V, h⟩ := h
  exact ⟨A, cap, V, h.grown hg hX h1 h2 hXX⟩
/-- Off a row's own block. -/
def Off (v : Value) : Nat → Prop := fun b => v.ownBlock ≠ some b
/-- A net, and a row of messages beside it. -/
structure NS (w0 w : World) (g q : Nat) (ps : List (List UInt8)) (s c l d : Int) (S : List Msg) (v : Value) : Prop where
  net : NT (Off v) w g q 256 ps s c l d
  own : w.ownsRow (g + 1) 34 12 v S.length (msgV S)
  bel : Below w0.heap.size w0 w
  q0 : w0.heap.size ≤ q
section
variable {w0 w w' : World} {g q : Nat} {ps ps' : List (List UInt8)} {s c l d s' c' l' d' : Int} {S : List Msg} {v : Value}
theorem NS.below (h : NS w0 w g q ps s c l d S v) (hb : Below w.heap.size w w') : NS w0 w' g q ps s c l d S v :=
  ⟨h.net.below hb, own_below h.own hb, bthen h.bel hb, h.q0⟩
theorem NS.off (h : NS w0 w g q ps s c l d S v) : ∀ b, w.heap.size ≤ b → Off v b := fun b hb e => by
  have := (h.own.lt b e).2
  omega
theorem own_twob {k n B : Nat} {E : TypeId} {xs : List Value} (h : w.ownsRow B E k v n xs) (ht : Two g q w w') (hg : g < B) (hq : q < B) : w'.ownsRow B E k v n xs := by
  refine ⟨h.1, h.2.imp id ?_⟩
  rintro ⟨r, cap, cur, h1, h2, h3, h4⟩
  exact ⟨r, cap, cur, h1, h2, (ht.2.2 r (by omega) (by omega) (Array.getElem?_eq_some_iff.1 h3).1).trans h3, h4⟩
theorem NS.two (h : NS w0 w g q ps s c l d S v) (hn : NT (Off v) w' g q 256 ps' s' c' l' d') (ht : Two g q w w') : NS w0 w' g q ps' s' c' l' d' S v := by
  have hq := hn.cells.2.2.2.2.2.2.2
  exact ⟨hn, own_twob h.own ht (by omega) (by omega), ht.below h.bel h.q0, h.q0⟩
theorem NS.sizes (h : NS w0 w g q ps s c l d S v) : g < w.heap.size ∧ q < g ∧ w0.heap.size ≤ q := ⟨h.net.cells.2.2.2.2.2.2.1, h.net.cells.2.2.2.2.2.2.2, h.q0⟩
theorem NS.push {T : List Msg} {v' : Value} (h : NS w0 w g q ps s c l d S v) (ho : w'.ownsRow (g + 1) 34 12 v' T.length (msgV T)) (hg : w.grownBy w' v.ownBlock) (hat : v'.ownBlock = v.ownBlock ∨ v'.ownBlock = some w.heap.size) : NS w0 w' g q ps s c l d T v' := by
  obtain ⟨z1, z2, z3⟩ := h.sizes
  have hlt := h.own.lt
  refine ⟨h.net.grown hg (fun b hb e => hb e.symm) (fun e => ?_) (fun e => ?_) (fun b hb hX e => ?_), ho, ?_, h.q0⟩
  · have := (hlt g e.symm).1; omega
  · have := (hlt q e.symm).1; omega
  · rcases hat with hat | hat
    · exact hX (hat ▸ e)
    · rw [hat] at e
      injection e with e
      omega
  · exact h.bel.trans (own_grown h.own (by omega) hg |>.mono (by omega))
end
/-- What was sent of the first k. -/
def sentL (M : Nat → Msg) : Nat → List Msg
  | 0 => []
  | k + 1 => if rightM (M k) = true then sentL M k ++ [M k] else sentL M k
theorem sentL_len (M : Nat → Msg) : ∀ k, (sentL M k).length ≤ k
  | 0 => Nat.le_refl _
  | k + 1 => by
    have := sentL_len M k
    unfold sentL
    split
    · rw [List.length_append]; simpa using this
    · omega
theorem sentL_ok {w : World} {M : Nat → Msg} : ∀ {k : Nat}, (∀ i, i < k → MsgOk w (M i)) → ∀ m ∈ sentL M k, MsgOk w m ∧ rightM m = true
  | 0, _, m, h => by simp [sentL] at h
  | k + 1, hM, m, h => by
    have ih := sentL_ok (k := k) fun i hi => hM i (by omega)
    unfold sentL at h
    split at h
    · rename_i hr
      rcases List.mem_append.1 h with h | h
      · exact ih m h
      · rw [List.mem_singleton.1 h]
        exact ⟨hM k (by omega), hr⟩
    · exact ih m h
def psOf (S : List Msg) : List (List UInt8) := S.map msgW
theorem psOf_len (S : List Msg) : (psOf S).length = S.length := by simp [psOf]
theorem psOf_snoc (S : List Msg) (m : Msg) : psOf (S ++ [m]) = psOf S ++ [msgW m] := by simp [psOf]
theorem psOf_get (S : List Msg) {k : Nat} (hk : k < S.length) : (psOf S).getD k [] = msgW (S.getD k msg0) := by simp [psOf, List.getD, hk]
theorem getD_mem {S : List Msg} {k : Nat} (hk : k < S.length) : S.getD k msg0 ∈ S := by simp [List.getD, hk]
end Go.Proofs.YtlocoieknabiaaaGreat

/-
  Layer 15 (net): what is refused.
-/
namespace Go.Proofs.YtlocoieknabiaaaGreat
set_option maxRecDepth 20000
open Go.RowKit
set_option linter.unusedSimpArgs false
attribute [local go_sem] rowAt_setRow rowAt_setCell Later.cell Later.frozen
variable {X : Nat → Prop}
theorem send_no (m : Msg) {w : World} (g : Nat) (hr : rightM m = false) (hm : MsgOk w m) :
    Calls Tryz.prog 8 #[.pointer (some ⟨g, 0, none⟩), .agg m.cells] w fun e w' => e = .returned (.int .i64 1) ∧ Below w.heap.size w w' := by
  have HE := Lib.hid (mencode_no m (w.alloc (.cells m.cells 34)) hr (hm.below ((Below.refl _ _).alloc (Nat.le_refl _) _)))
  clear hm hr
  unfold Msg.cells at *
  go_enter Tryz.func8, Tryz.ntmps8
  go_wp2_with fail
  refine HE.out.mono ?_
  rintro e w1 ⟨rfl, hb⟩
  have HB1 : Hid (Below w.heap.size w w1) := Lib.hid (bthen (below_allocS (Below.refl _ _) _) hb)
  clear hb HE
  go_wp2_with fail
  go_ret
  exact ⟨rfl, HB1.out⟩
theorem send_m (m : Msg) {w : World} {g q : Nat} {room s c l d : Int} {ps : List (List UInt8)} (hr : rightM m = true) (hm : MsgOk w m)
    (h : NT X w g q room ps s c l d) (hroom : ¬ (ps.length : Int) = room) (hlen : ps.length ≤ 1000000) (hs : 0 ≤ s ∧ s ≤ 1000000) (hX : ∀ b, w.heap.size ≤ b → X b) :
    Calls Tryz.prog 8 #[.pointer (some ⟨g, 0, none⟩), .agg m.cells] w fun e w' => e = .returned (.int .i64 0) ∧ NT X w' g q room (ps ++ [msgW m]) (s + 1) c l d ∧ Two g q w w' :=
  send_ok m (msgW m) (fun w' hb => (mencode_ok m w' hr (hm.below hb)).mono fun _ _ ⟨A, c, h1, h2, h3, h4, _, h6⟩ => ⟨A, c, h1, h2, h3, h4, h6⟩) h hroom hlen hs hX
theorem pull_none {w : World} {g q : Nat} {k : Int} {room s c l d : Int} {ps : List (List UInt8)} (h : NT X w g q room ps s c l d) (hk : k < 0 ∨ (ps.length : Int) ≤ k) :
    Calls Tryz.prog 22 #[.pointer (some ⟨g, 0, none⟩), .int .i64 k] w fun e w' => e = .returned (.tuple #[.slice none 0 0, .int .i64 10]) ∧ w = w' := by
  obtain ⟨A, cap, V, h⟩ := h
  have k2 : w.cell? ⟨g, 2, none⟩ = some (.slice A ps.length cap) := by rw [cell_of_rowAt h.row]; rfl
  clear h
  by_cases h1 : k < 0
  · have g1 : decide (k < 0) = true := decide_eq_true h1
    go_enter Tryz.func22, Tryz.ntmps22
    go_wp2_with fail
    go_ret2
    exact ⟨rfl, rfl⟩
  · have g1 : decide (k < 0) = false := decide_eq_false h1
    have g2 : decide ((ps.length : Int) ≤ k) = true := decide_eq_true (by omega)
    go_enter Tryz.func22, Tryz.ntmps22
    go_wp2_with fail
    go_ret2
    exact ⟨rfl, rfl⟩
theorem lose_none {w : World} {g q : Nat} {k : Int} {room s c l d : Int} {ps : List (List UInt8)} (h : NT X w g q room ps s c l d) (hk : k < 0 ∨ (ps.length : Int) ≤ k) :
    Calls Tryz.prog 13 #[.pointer (some ⟨g, 0, none⟩), .int .i64 k] w fun e w' => e = .returned (.int .i64 10) ∧ Below w.heap.size w w' := by
  have H := Lib.hid h
  clear h
  go_enter Tryz.func13, Tryz.ntmps13
  go_wp2_with fail
  refine (pull_none H.out hk).mono ?_
  rintro e _ ⟨rfl, rfl⟩
  go_wp2_with fail
  go_ret
  exact ⟨rfl, Below.refl _ _⟩
theorem take_none {w : World} {g q : Nat} {k : Int} {room s c l d : Int} {ps : List (List UInt8)} (h : NT X w g q room ps s c l d) (hk : k < 0 ∨ (ps.length : Int) ≤ k) :
    Calls Tryz.prog 9 #[.pointer (some ⟨g, 0, none⟩), .int .i64 k] w fun e w' => e = .returned (.tuple #[.agg msg0.cells, .int .i64 10]) ∧ Below w.heap.size w w' := by
  have hg := h.cells.2.2.2.2.2.2.1
  have H := Lib.hid fun o => h.below ((Below.refl w.heap.size w).alloc (Nat.le_refl _) o)
  clear h
  unfold Msg.cells msg0 at *
  dsimp only at *
  go_enter Tryz.func9, Tryz.ntmps9
  go_wp2_with fail
  refine (pull_none (H.out _) hk).mono ?_
  rintro e _ ⟨rfl, rfl⟩
  clear H
  go_wp2_with fail
  refine ret_ct (u := .int .i64 10) (by rfl) (by with_unfolding_all rfl) (by with_unfolding_all rfl) (by rfl) (load_msg_row (by (try simp only [rowAt_drew, rowAt_drewN]); first | exact rowAt_alloc_at _ _ _ _ rfl | exact set12 (rowAt_alloc_at _ _ _ _ rfl)) rfl) ?_
  refine ⟨rfl, ?_⟩
  exact below_allocS (Below.refl _ _) _
theorem twice_none {w : World} {g q : Nat} {k : Int} {room s c l d : Int} {ps : List (List UInt8)} (h : NT X w g q room ps s c l d) (hk : k < 0 ∨ (ps.length : Int) ≤ k) :
    Calls Tryz.prog 15 #[.pointer (some ⟨g, 0, none⟩), .int .i64 k] w fun e w' => e = .returned (.int .i64 10) ∧ Below w.heap.size w w' := by
  obtain ⟨A, cap, V, h⟩ := h
  have k2 : w.cell? ⟨g, 2, none⟩ = some (.slice A ps.length cap) := by rw [cell_of_rowAt h.row]; rfl
  clear h
  by_cases h1 : k < 0
  · have g1 : decide (k < 0) = true := decide_eq_true h1
    go_enter Tryz.func15, Tryz.ntmps15
    go_wp2_with fail
    go_ret
    exact ⟨rfl, Below.refl _ _⟩
  · have g1 : decide (k < 0) = false := decide_eq_false h1
    have g2 : decide ((ps.length : Int) ≤ k) = true := decide_eq_true (by omega)
    go_enter Tryz.func15, Tryz.ntmps15
    go_wp2_with fail
    go_ret
    exact ⟨rfl, Below.refl _ _⟩
theorem twice_full {w : World} {g q : Nat} {k : Int} {room s c l d : Int} {ps : List (List UInt8)} (h : NT X w g q room ps s c l d) (h0 : 0 ≤ k) (h9 : k < (ps.length : Int)) (hroom : (ps.length : Int) = room) :
    Calls Tryz.prog 15 #[.pointer (some ⟨g, 0, none⟩), .int .i64 k] w fun e w' => e = .returned (.int .i64 7) ∧ Below w.heap.size w w' := by
  obtain ⟨A, cap, V, h⟩ := h
  have k1 : w.cell? ⟨g, 1, none⟩ = some (.int .i64 room) := by rw [cell_of_rowAt h.row]; rfl
  have k2 : w.cell? ⟨g, 2, none⟩ = some (.slice A ps.length cap) := by rw [cell_of_rowAt h.row]; rfl
  have hgl := rowAt_lt h.row
  clear h
  have g1 : decide (k < 0) = false := decide_eq_false (by omega)
  have g2 : decide ((ps.length : Int) ≤ k) = false := decide_eq_false (by omega)
  subst hroom
  go_enter Tryz.func15, Tryz.ntmps15
  go_upto_region 5 with fail
  refine region_quiet (by kernel_rfl) (by kernel_rfl) ?_
  repeat (go_big_quiet_step (fail))
  refine wpQuiet_nil ?_
  intro w2 hb
  have HB2 := Lib.hid hb
  clear hb k1 k2
  go_wp2_with fail
  go_ret
  exact ⟨rfl, HB2.out⟩
theorem send_full (m : Msg) {w : World} {g q : Nat} {room s c l d : Int} {ps : List (List UInt8)} (hr : rightM m = true) (hm : MsgOk w m) (h : NT X w g q room ps s c l d) (hroom : (ps.length : Int) = room) :
    Calls Tryz.prog 8 #[.pointer (some ⟨g, 0, none⟩), .agg m.cells] w fun e w' => e = .returned (.int .i64 7) ∧ Below w.heap.size w w' := by
  have HE := Lib.hid (mencode_ok m (w.alloc (.cells m.cells 34)) hr (hm.below ((Below.refl _ _).alloc (Nat.le_refl _) _)))
  have H := Lib.hid (h.below ((Below.refl w.heap.size w).alloc (Nat.le_refl _) (.cells m.cells 34)))
  clear h hm hr
  unfold Msg.cells at *
  go_enter Tryz.func8, Tryz.ntmps8
  go_wp2_with fail
  refine HE.out.mono ?_
  rintro e w1 ⟨A1, c1, rfl, -, -, -, -, hb⟩
  have H1 := Lib.hid (H.out.below hb)
  have HB1 : Hid (Below w.heap.size w w1) := Lib.hid (bthen (below_allocS (Below.refl _ _) _) hb)
  clear hb HE H
  obtain ⟨A, cap, V, hv⟩ := H1.out
  have k1 : w1.cell? ⟨g, 1, none⟩ = some (.int .i64 room) := by rw [cell_of_rowAt hv.row]; rfl
  have k2 : w1.cell? ⟨g, 2, none⟩ = some (.slice A ps.length cap) := by rw [cell_of_rowAt hv.row]; rfl
  have hgl := rowAt_lt hv.row
  clear hv H1
  subst hroom
  go_upto_region 6 with fail
  refine region_quiet (by kernel_rfl) (by kernel_rfl) ?_
  repeat (go_big_quiet_step (fail))
  refine wpQuiet_nil ?_
  intro w2 hb
  have HB2 := Lib.hid (bthen HB1.out hb)
  clear hb HB1 k1 k2
  go_wp2_with fail
  go_ret
  exact ⟨rfl, HB2.out⟩
theorem reM_back (m : Msg) (A : Option Addr) (c : Nat) (H : Nat → Option Addr × Nat) : reM (reM m A c H) m.fA m.fc (fun i => ((m.fl i).hA, (m.fl i).hc)) = m := rfl
/-- A message that was sent comes as it was. -/
theorem take_m (m : Msg) {w0 w : World} {g q k : Nat} {room s c l d : Int} {ps : List (List UInt8)} (h : NT X w g q room ps s c l d) (hk : k < ps.length) (hlen : ps.length ≤ 1000000) (hc : 0 ≤ c ∧ c ≤ 1000000)
    (hr : rightM m = true) (hm : MsgOk w0 m) (hp : ps.getD k [] = msgW m) (hX : ∀ b, w.heap.size ≤ b → X b) :
    Calls Tryz.prog 9 #[.pointer (some ⟨g, 0, none⟩), .int .i64 (k : Int)] w fun e w' => ∃ A' c' H, e = .returned (.tuple #[.agg (reM m A' c' H).cells, .int .i64 0]) ∧ MsgOk w' (reM m A' c' H) ∧ NT X w' g q room (without ps k) s (c + 1) l d ∧ Two g q w w' :=
  (take_re m h hk hlen hc hr hp hX).mono fun _ _ ⟨A', c', H, h1, h2, h3, h4⟩ => ⟨A', c', H, h1, reM_ok hm h2, h3, h4⟩
end Go.Proofs.YtlocoieknabiaaaGreat

/-
  Layer 15 (net): small facts that several laws use.
-/
namespace Go.Proofs.YtlocoieknabiaaaGreat
set_option maxRecDepth 20000
open Go.RowKit
set_option linter.unusedSimpArgs false
set_option linter.unusedVariables false
theorem len_c {X : Nat → Prop} {w : World} {g q : Nat} {room s c l d : Int} {ps : List (List UInt8)} (h : NT X w g q room ps s c l d) {n : Nat} (hn : ps.length = n) : Calls Tryz.prog 17 #[.pointer (some ⟨g, 0, none⟩)] w fun e w' => e = .returned (.int .i64 (n : Int)) ∧ Below w.heap.size w w' :=
  hn ▸ len_b h
theorem without_drop {S : List Msg} {k : Nat} : without (psOf (S.drop k)) 0 = psOf (S.drop (k + 1)) := by
  unfold without psOf
  rw [List.take_zero, List.nil_append, ← List.map_drop, List.drop_drop]
theorem psOf_drop_get {S : List Msg} {k : Nat} (hk : k < S.length) : (psOf (S.drop k)).getD 0 [] = msgW (S.getD k msg0) := by
  simp [psOf, List.getD, hk]
theorem psOf_drop_len {S : List Msg} {k : Nat} : (psOf (S.drop k)).length = S.length - k := by simp [psOf]
/-- The row's block. -/
theorem own_msg' {w : World} {B c : Nat} {a : Option Addr} {S : List Msg} (h : w.ownsRow B 34 12 (.slice a S.length c) S.length (msgV S)) {i : Nat} (hi : i < S.length) :
    ∃ g, a = some ⟨g, 0, none⟩ ∧ B ≤ g ∧ g < w.heap.size ∧ loadAgg Tryz.prog w 34 (.pointer (some ⟨g, i * 12, none⟩)) = .ok (.value (.agg (S.getD i msg0).cells)) w := by
  obtain ⟨g, c', e, h1, h2, h3⟩ := own_msg h hi
  injection e with e
  exact ⟨g, e, h1, h2, h3⟩
theorem own_cut {w : World} {B c : Nat} {a : Option Addr} {S : List Msg} (h : w.ownsRow B 34 12 (.slice a S.length c) S.length (msgV S)) {i : Nat} (hi : i < S.length) :
    ∃ g cur, a = some ⟨g, 0, none⟩ ∧ B ≤ g ∧ g < w.heap.size ∧ rowAt w g = some (cur, 34) ∧ i * 12 + 12 ≤ cur.size ∧ cut cur (i * 12) 12 = (S.getD i msg0).cells := by
  rcases h.2 with ⟨e, h0⟩ | ⟨g, cap, cur, e, hb, hg, hn, hc, hs, ht⟩
  · omega
  · injection e with e1 e2 e3
    refine ⟨g, cur, e1, hb, (Array.getElem?_eq_some_iff.1 hg).1, rowAt_iff.2 hg, by omega, ?_⟩
    refine Array.ext (by simp [cut, Msg.size]; omega) fun j h1 h2 => ?_
    have hj : j < 12 := by rw [Msg.size] at h2; exact h2
    have h3 := msgV_get S i j hi hj
    rw [← ht, List.getElem?_take, if_pos (by omega), Array.getElem?_toList, Array.getElem?_eq_getElem (by omega), Array.getElem?_eq_getElem h2] at h3
    injection h3 with h3
    simpa [cut] using h3
theorem msame_yes' (m : Msg) (A : Option Addr) (c : Nat) (H : Nat → Option Addr × Nat) (w : World) (h1 : MsgOk w (reM m A c H)) (h2 : MsgOk w m) :
    Calls Tryz.prog 11 #[.agg (reM m A c H).cells, .agg m.cells] w fun e w' => e = .returned (.bool true) ∧ Below w.heap.size w w' := by
  have := msame_yes (reM m A c H) m.fA m.fc (fun i => ((m.fl i).hA, (m.fl i).hc)) w h1 (by rw [reM_back]; exact h2)
  rwa [reM_back] at this
/-- What is left of S without its k-th, when i of S were gone through. -/
def restL (S : List Msg) (k i : Nat) : List Msg := (S.take k ++ S.drop (k + 1)).drop (if i ≤ k then i else i - 1)
theorem restL_start (S : List Msg) (k : Nat) : without (psOf S) k = psOf (restL S k 0) := by
  unfold restL without psOf
  simp [List.map_take, List.map_drop]
theorem restL_same (S : List Msg) (k : Nat) : restL S k (k + 1) = restL S k k := by
  unfold restL
  rw [if_neg (by omega), if_pos (Nat.le_refl _), Nat.add_sub_cancel]
theorem restL_len {S : List Msg} {k : Nat} (hk : k < S.length) (i : Nat) : (restL S k i).length = S.length - 1 - (if i ≤ k then i else i - 1) := by
  unfold restL
  simp
  omega
theorem restL_head {S : List Msg} {k i : Nat} (hk : k < S.length) (hi : i < S.length) (hne : i ≠ k) : restL S k i = S.getD i msg0 :: restL S k (i + 1) := by
  have hg : ∀ j, j < S.length - 1 → (S.take k ++ S.drop (k + 1))[j]? = S[if j < k then j else j + 1]? := fun j hj => by
    by_cases h : j < k
    · rw [if_pos h, List.getElem?_append_left (by simp; omega), List.getElem?_take, if_pos h]
    · rw [if_neg h, List.getElem?_append_right (by simp; omega), List.getElem?_drop]
      congr 1
      simp
      omega
  have hl : (S.take k ++ S.drop (k + 1)).length = S.length - 1 := by simp; omega
  unfold restL
  generalize S.take k ++ S.drop (k + 1) = R at hg hl
  by_cases h : i < k
  · have h1 := hg i (by omega)
    rw [if_pos h, List.getElem?_eq_getElem (by omega), List.getElem?_eq_getElem (by omega)] at h1
    injection h1 with h1
    rw [if_pos (by omega), if_pos (by omega), List.drop_eq_getElem_cons (by omega), h1]
    simp [List.getD, hi]
  · have h1 := hg (i - 1) (by omega)
    rw [if_neg (by omega), show i - 1 + 1 = i by omega, List.getElem?_eq_getElem (by omega), List.getElem?_eq_getElem (by omega)] at h1
    injection h1 with h1
    rw [if_neg (by omega), if_neg (by omega), List.drop_eq_getElem_cons (by omega), h1, show i - 1 + 1 = i + 1 - 1 by omega]
    simp [List.getD, hi]
theorem without_cons (m : Msg) (R : List Msg) : without (psOf (m :: R)) 0 = psOf R := by simp [without, psOf]
theorem psOf_cons_get (m : Msg) (R : List Msg) : (psOf (m :: R)).getD 0 [] = msgW m := by simp [psOf]
end Go.Proofs.YtlocoieknabiaaaGreat
