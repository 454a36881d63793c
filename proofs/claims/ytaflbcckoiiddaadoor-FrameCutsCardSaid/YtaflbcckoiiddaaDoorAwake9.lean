/-
  Layer 9 (frame): what the document fixes; the row of a laid table.
-/
import Derived.Test.YtaflbcckoiiddaaDoorScan
import Derived.Lib.SlBytesConst
import Derived.Laws.IdiomStrings
namespace Go.Proofs.YtaflbcckoiiddaaDoor
open Go.RowKit
set_option linter.unusedSimpArgs false
set_option linter.unusedVariables false
/-- The text of bytes. -/
def strT (l : List UInt8) : ByteArray := ⟨l.toArray⟩
theorem convT {w : World} {A : Option Addr} {c : Nat} {l : List UInt8} (h : IsBy w A l) : (convert 22 9 (.slice A l.length c)).run Tryd.prog w = .ok (.string (strT l)) w := by
  cases A with
  | none =>
    have : l = [] := by
      cases l with
      | nil => rfl
      | cons y ys => obtain ⟨b, o, h1, _⟩ := h 0 (by simp); cases h1
    subst this
    rw [List.length_nil, run_convert_bytes_string w _ _ _ none 0 c Tryd.underlying22 Tryd.underlying5 Tryd.underlying9]
    rfl
  | some a =>
    refine run_convert_bytes_back w _ _ _ a c l Tryd.underlying22 Tryd.underlying5 Tryd.underlying9 fun j hj => ?_
    obtain ⟨b, o, h1, h2⟩ := h j hj
    injection h1 with h1
    subst h1
    rw [Addr.add_lit, h2]
    simp [bc, List.getD, List.getElem?_eq_getElem hj]
theorem convT' {w : World} {A : Option Addr} {c n : Nat} {l : List UInt8} (h : IsBy w A l) (hn : l.length = n) : (convert 22 9 (.slice A n c)).run Tryd.prog w = .ok (.string (strT l)) w := by
  subst hn
  exact convT h
theorem crc_fixed : crc [49, 50, 51, 52, 53, 54, 55, 56, 57] = 3421780262 := by decide +kernel
theorem isBy_marked (w : World) (l : List UInt8) (T : TypeId) (fr : Nat × Nat) : IsBy (w.alloc (.cells (l.map bc).toArray T fr)) (some ⟨w.heap.size, 0, none⟩) l := by
  intro i hi
  refine ⟨w.heap.size, 0, rfl, ?_⟩
  rw [Nat.zero_add]
  have e : (w.alloc (.cells (l.map bc).toArray T fr)).heap[w.heap.size]? = some (.cells (l.map bc).toArray T fr) := by
    show (w.heap.push (.cells (l.map bc).toArray T fr))[w.heap.size]? = _
    simp
  unfold World.cell?
  simp only [e]
  simp [List.getElem?_eq_getElem hi, List.getD]
set_option maxHeartbeats 2000000 in
theorem awake9 (w : World) (hN : Nib w) : Calls Tryd.prog 10 #[] w fun e w' => e = .returned (.bool true) ∧ Below w.heap.size w w' := by
  have HN := Lib.hid hN
  clear hN
  go_enter Tryd.func10, Tryd.ntmps10
  have hcv := Lib.run_convert_bytes_const w 22 5 #[.int .u8 97] 1 1 Tryd.underlying22 Tryd.underlying5
  go_wp2_with fail
  clear hcv
  obtain ⟨W, hW⟩ : ∃ W, w.alloc (.cells #[.int .u8 97] 5 (1, 2)) = W := ⟨_, rfl⟩
  have hb1 : Below w.heap.size w W := by rw [← hW]; exact (Below.refl _ _).alloc (Nat.le_refl _) _
  have HB1 := Lib.hid hb1
  have HI1 : Hid (IsBy W (some ⟨w.heap.size, 0, none⟩) [97]) := Lib.hid (by rw [← hW]; exact isBy_marked w [97] _ _)
  have HN1 := Lib.hid (HN.out.below hb1)
  rw [hW]
  clear hW hb1
  refine (fput_any (some ⟨w.heap.size, 0, none⟩) [97] 1 W HN1.out HI1.out (by decide) (fun h => by cases h) (by decide)).mono ?_
  rintro e w2 ⟨v, rfl, hown, hb⟩
  have HB2 := Lib.hid (bthen HB1.out hb)
  have HN2 := Lib.hid (HN1.out.below hb)
  obtain ⟨A2, c2, rfl, i1, i2, i3, _⟩ := hown.isBy
  obtain ⟨b2, o2, rfl, hc0⟩ := i1 0 (by rw [putL_len]; decide)
  have hlen : (putL [97]).length = 9 := by rw [putL_len]; rfl
  rw [hlen]
  have hc1 : w2.cell? ⟨b2, o2, none⟩ = some (.int .u8 1) := hc0
  have hlt : b2 < w2.heap.size := World.block_lt_of_cell? _ _ hc1
  clear hb hown i1 hc0 i2 hlen
  have hcv := Lib.run_convert_bytes_const w2 22 5 #[.int .u8 49, .int .u8 50, .int .u8 51, .int .u8 52, .int .u8 53, .int .u8 54, .int .u8 55, .int .u8 56, .int .u8 57] 9 9 Tryd.underlying22 Tryd.underlying5
  go_wp2_with fail
  clear hcv
  obtain ⟨W3, hW3⟩ : ∃ W3, w2.alloc (.cells #[.int .u8 49, .int .u8 50, .int .u8 51, .int .u8 52, .int .u8 53, .int .u8 54, .int .u8 55, .int .u8 56, .int .u8 57] 5 (9, 10)) = W3 := ⟨_, rfl⟩
  have hb3 : Below w2.heap.size w2 W3 := by rw [← hW3]; exact (Below.refl _ _).alloc (Nat.le_refl _) _
  have HB3 := Lib.hid (bthen HB2.out hb3)
  have HI3 : Hid (IsBy W3 (some ⟨w2.heap.size, 0, none⟩) [49, 50, 51, 52, 53, 54, 55, 56, 57]) := Lib.hid (by
    rw [← hW3]
    exact isBy_marked w2 [49, 50, 51, 52, 53, 54, 55, 56, 57] _ _)
  have HN3 := Lib.hid (HN2.out.below hb3)
  have hc3 : W3.cell? ⟨b2, o2, none⟩ = some (.int .u8 1) := (hb3.cell (p := ⟨b2, o2, none⟩) hlt).trans hc1
  rw [hW3]
  clear hW3 hb3 hc1
  refine (fsum_any (some ⟨w2.heap.size, 0, none⟩) [49, 50, 51, 52, 53, 54, 55, 56, 57] 9 W3 HN3.out HI3.out (by decide)).mono ?_
  rintro e _ ⟨rfl, rfl⟩
  rw [crc_fixed]
  go_wp2_with fail
  go_ret
  exact ⟨rfl, HB3.out⟩
end Go.Proofs.YtaflbcckoiiddaaDoor
