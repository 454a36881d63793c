/-
  Layer 12 (wlog): what a log knows when its disk is another one's; a crash of what is safe.
-/
import Derived.Test.YtfnbcafilbafgaaDoorWlogRef
namespace Go.Proofs.YtfnbcafilbafgaaDoor
open Go.RowKit
set_option linter.unusedSimpArgs false
set_option linter.unusedVariables false
/-- What a log knows. -/
def LV (base : Nat) (w : World) (q : Nat) (ps : List (List UInt8)) : Prop := ∃ p v, rowAt w q = some (#[.pointer p, v], 67) ∧ OwnTx w base v ps
theorem LG.lv {base : Nat} {w : World} {q p : Nat} {s f : Int} {b : List UInt8} {ps : List (List UInt8)} (h : LG base w q p s b f ps) : LV base w q ps := by
  obtain ⟨v, h1, h2, _⟩ := h
  exact ⟨_, v, h1, h2⟩
theorem LV.below {base : Nat} {w w' : World} {q : Nat} {ps : List (List UInt8)} (h : LV base w q ps) (hb : Below w.heap.size w w') : LV base w' q ps := by
  obtain ⟨p, v, h1, h2⟩ := h
  exact ⟨p, v, rowKeep hb h1, h2.below hb⟩
theorem LV.disk {base : Nat} {w w' : World} {q p : Nat} {s f : Int} {b : List UInt8} {ps : List (List UInt8)} (h : LV base w q ps) (hd : DK w p s b f) (hb : Bt p w w') : LV base w' q ps := by
  obtain ⟨p', v, h1, h2⟩ := h
  obtain ⟨c, h5⟩ := hd.row
  exact ⟨p', v, (hb.row (rowAt_lt h1) (rowAt_ne h1 h5 (by decide))).trans h1, h2.off h5 (by decide) hd.noBy hb⟩
theorem wlen_lv {base : Nat} {w : World} {q : Nat} {ps : List (List UInt8)} (h : LV base w q ps) :
    Calls Tryd.prog 21 #[.pointer (some ⟨q, 0, none⟩)] w fun e w' => e = .returned (.int .i64 (ps.length : Nat)) ∧ w = w' := by
  obtain ⟨p, v, h1, h2⟩ := h
  obtain ⟨A, c, V, rfl, _⟩ := h2.texts
  have d1 : w.cell? ⟨q, 1, none⟩ = some (.slice A ps.length c) := by rw [cell_of_rowAt h1]; rfl
  clear h1 h2
  go_enter Tryd.func21, Tryd.ntmps21
  go_wp2_with fail
  go_ret
  exact ⟨rfl, rfl⟩
/-- The last record. -/
def lastT (ps : List (List UInt8)) : List UInt8 := ps.getD (ps.length - 1) []
/-- What is safe stays. -/
theorem crash_safe {w : World} {p : Nat} {s : Int} {l : List UInt8} {X : Option Addr → Prop} (a b : Int) (h : DKX X w p s l (l.length : Nat)) (hlen : l.length ≤ 1099511627776) :
    Calls Tryd.prog 23 #[.pointer (some ⟨p, 0, none⟩), .int .i64 a, .int .i64 b] w fun e w' => e = .returned (.tuple #[]) ∧ DKX X w' p s l (l.length : Nat) ∧ Bt p w w' := by
  have e : crashI l.length l.length a b = l.length := by
    have h1 := bnd_range a
    have h2 := bnd_range b
    unfold crashI minI maxI
    split <;> split <;> omega
  refine (dcrash_anyX a b h (Nat.le_refl _) hlen).mono ?_
  rintro e' w' ⟨h1, h2, h3⟩
  rw [e, Int.toNat_natCast, List.take_length] at h2
  exact ⟨h1, h2, h3⟩
theorem scan_all (ps : List (List UInt8)) (h : ∀ p, p ∈ ps → p.length ≤ 32768) : ScanIs (flatP ps) (flatP ps).length ps ∧ takeE ((flatP ps).drop (flatP ps).length) = 3 := by
  have h1 := scan_flat ps [] h (by decide)
  rw [List.append_nil] at h1
  exact ⟨h1, by rw [List.drop_length]; decide⟩
end Go.Proofs.YtfnbcafilbafgaaDoor
