/-
  Layer 15 (net): a net, and the row of what was sent beside it.
-/
import Derived.Test.YtlocoieknabiaaaZMsgOps
import Derived.Test.YtlocoieknabiaaaZNet5
import Derived.Maps.AppendAt
namespace Go.Proofs.Ytlocoieknabiaaa
set_option maxRecDepth 20000
open Go.RowKit
set_option linter.unusedSimpArgs false
set_option linter.unusedVariables false
/-- append to a row of the call's own, with the block that it lies in then. -/
theorem wl_append_rows3 {P : Program} {w : World} {base k n : Nat} {E : TypeId} {v : Value} {xs : List Value} {T : TypeId} {bytes : Nat} {z : Value} (hT : P.underlying T = some (.slice E)) (hi : (P.info? E).map (fun i => (i.zero, i.size, i.bytes)) = some (some z, k, bytes)) (hzc : z.cells.size = k) (hk : 0 < k)
    {ops : Array Oper} {rest : List Oper} {o : Oper} {a : Act} {Q : Exit → Act → World → Prop} (hgd : o.guard = none) (s x : Operand)
    (ho : o.op = .call { callee := .builtin .append, args := #[s, x], argTypes := #[T, T] }) (hs : a.eval s = v) (hown : w.ownsRow base E k v n xs)
    (ad : Addr) (m c : Nat) (ys : List Value) (hx : a.eval x = .slice (some ad) m c) (hl : ys.length = m * k) (hcell : ∀ j u, ys[j]? = some u → w.cell? (ad.add j) = some u)
    (h1 : ∀ u ∈ ys, u.oneCell' = true) (h63 : n + m ≤ 9223372036854775807) (hbytes : (n + m) * bytes ≤ 140737488355328) (hbase : base ≤ w.heap.size)
    (h : ∀ v' w', w'.ownsRow base E k v' (n + m) (xs ++ ys) → w.grownBy w' v.ownBlock → (v'.ownBlock = v.ownBlock ∨ v'.ownBlock = some w.heap.size) → wpList P ops Q rest (a.put o.dst v') w') : wpList P ops Q (o :: rest) a w := by
  obtain ⟨i0, hi0, hz0, hz1, hz2⟩ := info_parts hi
  exact wpList_append_own_at w hgd s x _ ho base E i0 z k bytes hT hi0 hz0 hz1 hz2 hzc hk v _ _ hs hown ad m c ys hx hl hcell h1 (by unfold maxLen; omega) hbytes hbase fun v' w' h2 h3 _ h5 => h v' w' h2 h3 h5
theorem grown_row {w w' : World} {r : Option Nat} (hg : w.grownBy w' r) {k : Nat} {x : Array Value × TypeId} (h : rowAt w k = some x) (hk : some k ≠ r) : rowAt w' k = some x :=
  (rowAt_of_heap (hg.block k (rowAt_lt h) hk)).trans h
theorem NTv.grown {X X' : Nat → Prop} {w w' : World} {g q : Nat} {room s c l d : Int} {A : Option Addr} {cap : Nat} {V : Nat → Option Addr × Nat} {ps : List (List UInt8)} {r : Option Nat} (h : NTv X w g q room A cap V ps s c l d) (hg : w.grownBy w' r)
    (hX : ∀ b, X b → some b ≠ r) (h1 : some g ≠ r) (h2 : some q ≠ r) (hXX : ∀ b, b < w.heap.size → X b → X' b) : NTv X' w' g q room A cap V ps s c l d := by
  have hcell : ∀ i, i < ps.length → ∀ x, A = some x → x.block < w.heap.size := fun i hi x hx => by
    obtain ⟨b, o, e1, e2⟩ := h.cell i hi
    rw [hx] at e1
    injection e1 with e1
    subst e1
    exact (show b < w.heap.size from World.block_lt_of_cell? w ⟨b, o + i, none⟩ e2)
  have hne : ∀ {i : Nat}, i < ps.length → ps ≠ [] := fun hi e => by rw [e] at hi; simp at hi
  refine ⟨grown_row hg h.row h1, grown_row hg h.book h2, h.lt, h.le, h.nil, h.big, h.off, fun i hi => ?_, fun i hi => ⟨fun j hj => ?_, (h.by_ i hi).2⟩, fun x hx hp => ?_, fun i hi h0 x hx => ?_⟩
  · obtain ⟨b, o, e1, e2⟩ := h.cell i hi
    exact ⟨b, o, e1, hg.cell e2 (show some b ≠ r from hX _ (h.sepA _ e1 (hne hi)))⟩
  · obtain ⟨b, o, e1, e2⟩ := (h.by_ i hi).1 j hj
    exact ⟨b, o, e1, hg.cell e2 (show some b ≠ r from hX _ (h.sepV i hi (by intro h0; rw [h0] at hj; simp at hj) _ e1))⟩
  · exact hXX _ (hcell 0 (by cases ps; exact absurd rfl hp; simp) x hx) (h.sepA x hx hp)
  · exact hXX _ (isBy_lt (h.by_ i hi).1 h0 x hx) (h.sepV i hi h0 x hx)
theorem NT.grown {X X' : Nat → Prop} {w w' : World} {g q : Nat} {room s c l d : Int} {ps : List (List UInt8)} {r : Option Nat} (h : NT X w g q room ps s c l d) (hg : w.grownBy w' r)
    (hX : ∀ b, X b → some b ≠ r) (h1 : some g ≠ r) (h2 : some q ≠ r) (hXX : ∀ b, b < w.heap.size → X b → X' b) : NT X' w' g q room ps s c l d := by
  obtain ⟨A, cap, V, h⟩ := h
  exact ⟨A, cap, V, h.grown hg hX h1 h2 hXX⟩
/-- Off a row's own block. -/
def Off (v : Value) : Nat → Prop := fun b => v.ownBlock ≠ some b
/-- A net, and a row of messages beside it. -/
structure NS (w0 w : World) (g q : Nat) (ps : List (List UInt8)) (s c l d : Int) (S : List Msg) (v : Value) : Prop where
  net : NT (Off v) w g q 256 ps s c l d
  own : w.ownsRow (g + 1) 30 12 v S.length (msgV S)
  bel : Below w0.heap.size w0 w
  q0 : w0.heap.size ≤ q
section
variable {w0 w w' : World} {g q : Nat} {ps ps' : List (List UInt8)} {s c l d s' c' l' d' : Int} {S : List Msg} {v : Value}
theorem NS.below (h : NS w0 w g q ps s c l d S v) (hb : Below w.heap.size w w') : NS w0 w' g q ps s c l d S v :=
  ⟨h.net.below hb, own_below h.own hb, bthen h.bel hb, h.q0⟩
theorem NS.off (h : NS w0 w g q ps s c l d S v) : ∀ b, w.heap.size ≤ b → Off v b := fun b hb e => by
  have := (h.own.lt b e).2
  omega
theorem own_twob {k n B : Nat} {E : TypeId} {xs : List Value} (h : w.ownsRow B E k v n xs) (ht : Two g q w w') (hg : g < B) (hq : q < B) : w'.ownsRow B E k v n xs := by
  refine ⟨h.1, h.2.imp id ?_⟩
  rintro ⟨r, cap, cur, h1, h2, h3, h4⟩
  exact ⟨r, cap, cur, h1, h2, (ht.2.2 r (by omega) (by omega) (Array.getElem?_eq_some_iff.1 h3).1).trans h3, h4⟩
theorem NS.two (h : NS w0 w g q ps s c l d S v) (hn : NT (Off v) w' g q 256 ps' s' c' l' d') (ht : Two g q w w') : NS w0 w' g q ps' s' c' l' d' S v := by
  have hq := hn.cells.2.2.2.2.2.2.2
  exact ⟨hn, own_twob h.own ht (by omega) (by omega), ht.below h.bel h.q0, h.q0⟩
theorem NS.sizes (h : NS w0 w g q ps s c l d S v) : g < w.heap.size ∧ q < g ∧ w0.heap.size ≤ q := ⟨h.net.cells.2.2.2.2.2.2.1, h.net.cells.2.2.2.2.2.2.2, h.q0⟩
theorem NS.push {T : List Msg} {v' : Value} (h : NS w0 w g q ps s c l d S v) (ho : w'.ownsRow (g + 1) 30 12 v' T.length (msgV T)) (hg : w.grownBy w' v.ownBlock) (hat : v'.ownBlock = v.ownBlock ∨ v'.ownBlock = some w.heap.size) : NS w0 w' g q ps s c l d T v' := by
  obtain ⟨z1, z2, z3⟩ := h.sizes
  have hlt := h.own.lt
  refine ⟨h.net.grown hg (fun b hb e => hb e.symm) (fun e => ?_) (fun e => ?_) (fun b hb hX e => ?_), ho, ?_, h.q0⟩
  · have := (hlt g e.symm).1; omega
  · have := (hlt q e.symm).1; omega
  · rcases hat with hat | hat
    · exact hX (hat ▸ e)
    · rw [hat] at e
      injection e with e
      omega
  · exact h.bel.trans (own_grown h.own (by omega) hg |>.mono (by omega))
end
/-- What was sent of the first k. -/
def sentL (M : Nat → Msg) : Nat → List Msg
  | 0 => []
  | k + 1 => if rightM (M k) = true then sentL M k ++ [M k] else sentL M k
theorem sentL_len (M : Nat → Msg) : ∀ k, (sentL M k).length ≤ k
  | 0 => Nat.le_refl _
  | k + 1 => by
    have := sentL_len M k
    unfold sentL
    split
    · rw [List.length_append]; simpa using this
    · omega
theorem sentL_ok {w : World} {M : Nat → Msg} : ∀ {k : Nat}, (∀ i, i < k → MsgOk w (M i)) → ∀ m ∈ sentL M k, MsgOk w m ∧ rightM m = true
  | 0, _, m, h => by simp [sentL] at h
  | k + 1, hM, m, h => by
    have ih := sentL_ok (k := k) fun i hi => hM i (by omega)
    unfold sentL at h
    split at h
    · rename_i hr
      rcases List.mem_append.1 h with h | h
      · exact ih m h
      · rw [List.mem_singleton.1 h]
        exact ⟨hM k (by omega), hr⟩
    · exact ih m h
def psOf (S : List Msg) : List (List UInt8) := S.map msgW
theorem psOf_len (S : List Msg) : (psOf S).length = S.length := by simp [psOf]
theorem psOf_snoc (S : List Msg) (m : Msg) : psOf (S ++ [m]) = psOf S ++ [msgW m] := by simp [psOf]
theorem psOf_get (S : List Msg) {k : Nat} (hk : k < S.length) : (psOf S).getD k [] = msgW (S.getD k msg0) := by simp [psOf, List.getD, hk]
theorem getD_mem {S : List Msg} {k : Nat} (hk : k < S.length) : S.getD k msg0 ∈ S := by simp [List.getD, hk]
end Go.Proofs.Ytlocoieknabiaaa
