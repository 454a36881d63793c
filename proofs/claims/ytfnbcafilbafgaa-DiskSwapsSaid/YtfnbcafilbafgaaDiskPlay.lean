/-
  Layer 11 (disk): what holds of a disk behind any steps; texts of bytes; blocks of the reference.
-/
import Derived.Test.YtfnbcafilbafgaaFew
namespace Go.Proofs.Ytfnbcafilbafgaa
open Go.RowKit
set_option linter.unusedSimpArgs false
/-- The text of bytes. -/
def strB (l : List UInt8) : ByteArray := ⟨l.toArray⟩
theorem convB {w : World} {A : Option Addr} {c : Nat} {l : List UInt8} (h : IsBy w A l) : (convert 26 9 (.slice A l.length c)).run Try.prog w = .ok (.string (strB l)) w := by
  cases A with
  | none =>
    have : l = [] := by
      cases l with
      | nil => rfl
      | cons y ys => obtain ⟨b, o, h1, _⟩ := h 0 (by simp); cases h1
    subst this
    rw [List.length_nil, run_convert_bytes_string w _ _ _ none 0 c Try.underlying26 Try.underlying5 Try.underlying9]
    rfl
  | some a =>
    refine run_convert_bytes_back w _ _ _ a c l Try.underlying26 Try.underlying5 Try.underlying9 fun j hj => ?_
    obtain ⟨b, o, h1, h2⟩ := h j hj
    injection h1 with h1
    subst h1
    rw [Addr.add_lit, h2]
    simp [bc, List.getD, List.getElem?_eq_getElem hj]
theorem stepL_len {s : Int} {l t : List UInt8} {f : Nat} {V N M : Int} (hl : (l.length : Int) ≤ s) : ((stepL s l f V N M t).length : Int) ≤ s := by
  unfold stepL
  split
  · split
    · exact hl
    · rw [List.length_append]; omega
  split
  · exact hl
  split
  · split
    · exact hl
    · rw [List.length_take]; omega
  split
  · split
    · exact hl
    · omega
  split
  · rw [List.length_take]; omega
  · exact hl
theorem stepF_le {s : Int} {l t : List UInt8} {f : Nat} {V N M : Int} (hf : f ≤ l.length) : stepF s l f V N M t ≤ (stepL s l f V N M t).length := by
  unfold stepF stepL
  by_cases h0 : V = 0
  · simp only [if_pos h0]
    split
    · exact hf
    · rw [List.length_append]; omega
  simp only [if_neg h0]
  by_cases h1 : V = 1
  · simp only [if_pos h1]; exact Nat.le_refl _
  simp only [if_neg h1]
  by_cases h2 : V = 2
  · simp only [if_pos h2]
    split
    · exact hf
    · rw [List.length_take]; unfold minI; split <;> omega
  simp only [if_neg h2]
  by_cases h3 : V = 3
  · simp only [if_pos h3]
    split
    · exact hf
    · exact Nat.le_refl _
  simp only [if_neg h3]
  by_cases h4 : V = 4
  · simp only [if_pos h4]
    rw [List.length_take]
    have := crash_range (n := l.length) (f := f) N M
    omega
  simp only [if_neg h4]
  exact hf
theorem bnd_mono {a b : Int} (h : a ≤ b) : bndI a ≤ bndI b := by unfold bndI minI maxI; (repeat' split) <;> omega
theorem crash_mono {n f : Nat} {a b c e : Int} (h1 : a ≤ b) (h2 : c ≤ e) : crashI n f a c ≤ crashI n f b e := by
  have g1 := bnd_mono h1
  have g2 := bnd_mono h2
  have r1 := bnd_range a
  have r2 := bnd_range c
  unfold crashI minI maxI
  (repeat' split) <;> omega
theorem crash_all {n f : Nat} (hn : n ≤ 1048576) (_hf : f ≤ n) : crashI n f 16384 0 = n := by
  have g1 : bndI 16384 = 16384 := by decide
  have g2 : bndI 0 = 0 := by decide
  unfold crashI minI maxI
  rw [g1, g2]
  (repeat' split) <;> omega
/-- The reference's disk as a block. -/
def RK (w : World) (g : Nat) (s : Int) (l : List UInt8) (f : Nat) : Prop :=
  ∃ A c, rowAt w g = some (#[.int .i64 s, .int .i64 f, .slice A l.length c], 35) ∧ IsBy w A l ∧ l.length ≤ c ∧ (A = none → c = 0)
theorem RK.below {w w' : World} {g : Nat} {s : Int} {l : List UInt8} {f : Nat} (h : RK w g s l f) (hb : Below w.heap.size w w') : RK w' g s l f := by
  obtain ⟨A, c, h1, h2, h3, h4⟩ := h
  exact ⟨A, c, rowKeep hb h1, h2.below hb, h3, h4⟩
theorem RK.mk {w : World} {g : Nat} {s : Int} {l : List UInt8} {f n c : Nat} {A : Option Addr} {T : TypeId} (h1 : rowAt w g = some (#[.int .i64 s, .int .i64 f, .slice A n c], T)) (hT : T = 35) (hn : l.length = n) (h2 : IsBy w A l) (h3 : n ≤ c) (h4 : A = none → c = 0) : RK w g s l f := by
  subst hn hT
  exact ⟨A, c, h1, h2, h3, h4⟩
theorem RK.lt {w : World} {g : Nat} {s : Int} {l : List UInt8} {f : Nat} (h : RK w g s l f) : g < w.heap.size := by
  obtain ⟨A, c, h1, _⟩ := h
  exact rowAt_lt h1
theorem RK.set {w : World} {g p : Nat} {s s0 f0 s' f' : Int} {l l' : List UInt8} {f n0 c0 c : Nat} {A A0 : Option Addr} {T : TypeId} (h : rowAt w g = some (#[.int .i64 s0, .int .i64 f0, .slice A0 n0 c0], T)) (hT : T = 35) (hd : DK w p s' l' f') (hp : p ≠ g) (h2 : IsBy w A l) (h3 : l.length ≤ c) (h4 : A = none → c = 0) :
    RK (w.setRow g #[.int .i64 s, .int .i64 f, .slice A l.length c]) g s l f ∧ DK (w.setRow g #[.int .i64 s, .int .i64 f, .slice A l.length c]) p s' l' f' ∧ Bt g w (w.setRow g #[.int .i64 s, .int .i64 f, .slice A l.length c]) := by
  subst hT
  have hb := Bt.setRow g w #[.int .i64 s, .int .i64 f, .slice A l.length c]
  exact ⟨⟨A, c, by rw [rowAt_setRow, if_pos rfl, h]; rfl, isBy_off h2 (noBy3 h) hb, h3, h4⟩, dk_off hd (noBy3 h) hb hp, hb⟩
theorem crash_ge {n f : Nat} {a b : Int} (hf : f ≤ n) : (f : Int) ≤ crashI n f a b := by
  obtain ⟨h1, h2⟩ := bnd_range a
  obtain ⟨h3, h4⟩ := bnd_range b
  unfold crashI minI maxI
  (repeat' split) <;> omega
theorem crash_cut {w : World} {p f : Nat} {s : Int} {l : List UInt8} (a b : Int) (h : DK w p s l f) (hf : f ≤ l.length) (hlen : l.length ≤ 1099511627776) :
    Calls Try.prog 17 #[.pointer (some ⟨p, 0, none⟩), .int .i64 a, .int .i64 b] w fun e w' => ∃ l2 : List UInt8, e = .returned (.tuple #[]) ∧ DK w' p s l2 l2.length ∧ l2 = l.take l2.length ∧ f ≤ l2.length ∧ l2.length ≤ l.length ∧ crashI l.length f a b = l2.length ∧ Bt p w w' := by
  obtain ⟨h1, h2⟩ := crash_range (n := l.length) (f := f) a b
  have h3 := crash_ge (a := a) (b := b) hf
  refine (dcrash_any a b h hf hlen).mono ?_
  rintro e w' ⟨rfl, g1, g2⟩
  generalize crashI l.length f a b = k at *
  obtain ⟨m, rfl⟩ := Int.eq_ofNat_of_zero_le h1
  have hm : (l.take m).length = m := by rw [List.length_take]; omega
  have g1' : DK w' p s (l.take m) m := g1
  refine ⟨l.take m, rfl, by rw [hm]; exact g1', by rw [hm], by omega, by omega, by rw [hm], g2⟩
end Go.Proofs.Ytfnbcafilbafgaa
