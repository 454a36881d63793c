/-
  Fields, holds and messages as they lie in memory.
-/
import Derived.Test.YtpjichkigccfnaaBase
import Derived.Test.YtpjichkigccfnaaRights
import Derived.Test.YtpjichkigccfnaaBytes
namespace Go.Proofs.Ytpjichkigccfnaa
set_option maxRecDepth 20000
open Go.RowKit
set_option linter.unusedSimpArgs false
/-- The text of bytes. -/
def strT (l : List UInt8) : ByteArray := ⟨l.toArray⟩
theorem strT_of (s : ByteArray) : strT s.data.toList = s := by simp [strT]
theorem strT_size (l : List UInt8) : (strT l).size = l.length := by simp [strT, ByteArray.size]
theorem strT_inj {l r : List UInt8} : strT l = strT r ↔ l = r := by
  constructor
  · intro h
    have := congrArg (fun b : ByteArray => b.data.toList) h
    simpa [strT] using this
  · intro h; rw [h]
/-- Where a slice of structs of ints leads: n cells. -/
def IntsIs (w : World) (A : Option Addr) (n : Nat) (f : Nat → Int) : Prop := ∀ i, i < n → ∃ b o, A = some ⟨b, o, none⟩ ∧ w.cell? ⟨b, o + i, none⟩ = some (.int .i64 (f i))
theorem IntsIs.below {w w' : World} {A : Option Addr} {n : Nat} {f : Nat → Int} (h : IntsIs w A n f) (hb : Below w.heap.size w w') : IntsIs w' A n f := fun i hi => by
  obtain ⟨b, o, h1, h2⟩ := h i hi
  exact ⟨b, o, h1, (hb.cell (World.block_lt_of_cell? _ _ h2)).trans h2⟩
/-- A field. -/
structure Fld where
  name : List UInt8
  kind : Int
  epoch : Int
  cnt : Nat → Int
  lock : Nat → Int
  hA : Option Addr
  hn : Nat
  hc : Nat
  hs : Nat → Int
def Fld.val (F : Fld) (q : Nat) : Value :=
  if q = 0 then .string (strT F.name) else if q = 1 then .int .i64 F.kind else if q = 2 then .int .i64 F.epoch else if q < 582 then .int .i64 (F.cnt (q - 3)) else if q < 586 then .int .i64 (F.lock (q - 582)) else .slice F.hA F.hn F.hc
def Fld.cells (F : Fld) : Array Value := cellsF 587 F.val
theorem Fld.size (F : Fld) : F.cells.size = 587 := size_cellsF _ _
theorem Fld.one (F : Fld) : F.cells.all (fun v => v.oneCell') = true := one_cellsF fun i _ => by
  unfold Fld.val
  split
  · rfl
  · split
    · rfl
    · split
      · rfl
      · split
        · rfl
        · split <;> rfl
theorem Fld.get0 (F : Fld) : F.cells[0]? = some (.string (strT F.name)) := get_cellsF _ _ _ (by decide)
theorem Fld.get1 (F : Fld) : F.cells[1]? = some (.int .i64 F.kind) := get_cellsF _ _ _ (by decide)
theorem Fld.get2 (F : Fld) : F.cells[2]? = some (.int .i64 F.epoch) := get_cellsF _ _ _ (by decide)
theorem Fld.get586 (F : Fld) : F.cells[586]? = some (.slice F.hA F.hn F.hc) := get_cellsF _ _ _ (by decide)
theorem Fld.getE0 (F : Fld) (h : 0 < F.cells.size) : F.cells[0] = .string (strT F.name) := getE_cellsF _ _ _ h
theorem Fld.getE1 (F : Fld) (h : 1 < F.cells.size) : F.cells[1] = .int .i64 F.kind := getE_cellsF _ _ _ h
theorem Fld.getE2 (F : Fld) (h : 2 < F.cells.size) : F.cells[2] = .int .i64 F.epoch := getE_cellsF _ _ _ h
theorem Fld.getE586 (F : Fld) (h : 586 < F.cells.size) : F.cells[586] = .slice F.hA F.hn F.hc := getE_cellsF _ _ _ h
theorem Fld.cut_cnt (F : Fld) : cut F.cells 3 579 = ints 579 F.cnt := by
  unfold cut Fld.cells
  rw [extract_cellsF 587 _ 3 579 (by decide)]
  refine cellsF_congr fun i hi => ?_
  unfold Fld.val
  rw [if_neg (by omega), if_neg (by omega), if_neg (by omega), if_pos (by omega), Nat.add_sub_cancel_left]
theorem Fld.cut_lock (F : Fld) : cut F.cells 582 4 = ints 4 F.lock := by
  unfold cut Fld.cells
  rw [extract_cellsF 587 _ 582 4 (by decide)]
  refine cellsF_congr fun i hi => ?_
  unfold Fld.val
  rw [if_neg (by omega), if_neg (by omega), if_neg (by omega), if_neg (by omega), if_pos (by omega), Nat.add_sub_cancel_left]
theorem Fld.cut_all (F : Fld) : cut F.cells 0 587 = F.cells := by
  unfold cut
  rw [Nat.zero_add, ← F.size, Array.extract_size]
theorem Fld.splice_all (F : Fld) (c : Array Value) (h : c.size = 587) : splice c 0 F.cells = F.cells := by
  unfold splice
  rw [F.size]
  simp [List.drop_of_length_le, h]
/-- What a field's holds lead to. -/
structure FldOk (w : World) (F : Fld) : Prop where
  holds : IntsIs w F.hA (5 * F.hn) F.hs
  le : F.hn ≤ F.hc
  nil : F.hA = none → F.hc = 0
  big : F.name.length ≤ 9223372036854775807 ∧ F.hc ≤ 9223372036854775807
theorem FldOk.below {w w' : World} {F : Fld} (h : FldOk w F) (hb : Below w.heap.size w w') : FldOk w' F := ⟨h.holds.below hb, h.le, h.nil, h.big⟩
/-- A slice of fields. -/
structure FldsIs (w : World) (A : Option Addr) (n : Nat) (L : Nat → Fld) : Prop where
  cell : ∀ i, i < n → ∃ b o, A = some ⟨b, o, none⟩ ∧ ∀ j, j < 587 → w.cell? ⟨b, o + i * 587 + j, none⟩ = (L i).cells[j]?
  ok : ∀ i, i < n → FldOk w (L i)
theorem FldsIs.below {w w' : World} {A : Option Addr} {n : Nat} {L : Nat → Fld} (h : FldsIs w A n L) (hb : Below w.heap.size w w') : FldsIs w' A n L :=
  ⟨fun i hi => by
    obtain ⟨b, o, h1, h2⟩ := h.cell i hi
    refine ⟨b, o, h1, fun j hj => ?_⟩
    have h3 := h2 j hj
    have hs : (L i).cells[j]? = some ((L i).cells[j]'(by rw [Fld.size]; exact hj)) := Array.getElem?_eq_getElem _
    rw [hs] at h3 ⊢
    exact (hb.cell (World.block_lt_of_cell? _ _ h3)).trans h3, fun i hi => (h.ok i hi).below hb⟩
/-- A message. -/
structure Msg where
  kind : Int
  frm : Int
  to : Int
  ver : Int
  num : Int
  yes : Bool
  fA : Option Addr
  fn : Nat
  fc : Nat
  fl : Nat → Fld
  pk : Int
  pn : List UInt8
  po : List UInt8
  pa : Int
  pb : Int
def Msg.cells (m : Msg) : Array Value := #[.int .i64 m.kind, .int .i64 m.frm, .int .i64 m.to, .int .i64 m.ver, .int .i64 m.num, .bool m.yes, .slice m.fA m.fn m.fc, .int .i64 m.pk, .string (strT m.pn), .string (strT m.po), .int .i64 m.pa, .int .i64 m.pb]
structure MsgOk (w : World) (m : Msg) : Prop where
  flds : FldsIs w m.fA m.fn m.fl
  le : m.fn ≤ m.fc
  nil : m.fA = none → m.fc = 0
  big : m.pn.length ≤ 9223372036854775807 ∧ m.po.length ≤ 9223372036854775807 ∧ m.fc ≤ 9223372036854775807
theorem MsgOk.below {w w' : World} {m : Msg} (h : MsgOk w m) (hb : Below w.heap.size w w') : MsgOk w' m := ⟨h.flds.below hb, h.le, h.nil, h.big⟩
end Go.Proofs.Ytpjichkigccfnaa
