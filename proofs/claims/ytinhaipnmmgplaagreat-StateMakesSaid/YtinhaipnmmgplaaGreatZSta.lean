/-
  Layer 17 (state): states, and what the operations on them do.
-/
import Derived.Test.YtinhaipnmmgplaaGreatZGG
import Derived.Test.YtinhaipnmmgplaaGreatZGD
import Derived.Test.YtinhaipnmmgplaaGreatZPlan1
namespace Go.Proofs.YtinhaipnmmgplaaGreat
set_option maxRecDepth 20000
open Go.RowKit
set_option linter.unusedSimpArgs false
set_option linter.unusedVariables false
/-- A slice of fields, where it lies and what it holds. -/
structure FS where
  A : Option Addr
  n : Nat
  c : Nat
  l : Nat → Fld
def FS.val (F : FS) : Value := .slice F.A F.n F.c
def fs0 : FS := ⟨none, 0, 0, fun _ => fld0⟩
theorem FS.val0 : fs0.val = .slice none 0 0 := rfl
structure FSOk (w : World) (F : FS) : Prop where
  is : FldsIs w F.A F.n F.l
  le : F.n ≤ F.c
  nil : F.A = none → F.c = 0
  big : F.c ≤ 9223372036854775807
theorem FSOk.below {w w' : World} {F : FS} (h : FSOk w F) (hb : Below w.heap.size w w') : FSOk w' F := ⟨h.is.below hb, h.le, h.nil, h.big⟩
theorem FSOk.zero (w : World) : FSOk w fs0 := ⟨⟨fun i hi => absurd hi (by simp [fs0]), fun i hi => absurd hi (by simp [fs0])⟩, Nat.le_refl _, fun _ => rfl, by decide⟩
structure Pl where
  k : Int
  n : List UInt8
  o : List UInt8
  a : Int
  b : Int
def Pl.cells (p : Pl) : Array Value := #[.int .i64 p.k, .string (strT p.n), .string (strT p.o), .int .i64 p.a, .int .i64 p.b]
def pl0 : Pl := ⟨0, [], [], 0, 0⟩
theorem Pl.agg (p : Pl) : .agg p.cells = planA p.k p.n p.o p.a p.b := rfl
theorem Pl.size (p : Pl) : p.cells.size = 5 := by simp [Pl.cells]
/-- A state. -/
structure Sta where
  self : Int
  nn : Int
  clk : Int
  dec : Int
  frz : Int
  p : Pl
  f : FS
  bn : Int
  bst : Int
  bnum : Int
  bep : Int
  bp : Pl
  due : Int
  ack : Int
  told : Int
  j : FS
  m : FS
def sta0 : Sta := ⟨0, 0, 0, 0, 0, pl0, fs0, 0, 0, 0, 0, pl0, 0, 0, 0, fs0, fs0⟩
def Sta.cells (s : Sta) : Array Value := #[.int .i64 s.self, .int .i64 s.nn, .int .i64 s.clk, .int .i64 s.dec, .int .i64 s.frz, .int .i64 s.p.k, .string (strT s.p.n), .string (strT s.p.o), .int .i64 s.p.a, .int .i64 s.p.b, s.f.val, .int .i64 s.bn, .int .i64 s.bst, .int .i64 s.bnum, .int .i64 s.bep, .int .i64 s.bp.k, .string (strT s.bp.n), .string (strT s.bp.o), .int .i64 s.bp.a, .int .i64 s.bp.b, .int .i64 s.due, .int .i64 s.ack, .int .i64 s.told, s.j.val, s.m.val]
def Sta.bar (s : Sta) : Array Value := #[.int .i64 s.bn, .int .i64 s.bst, .int .i64 s.bnum, .int .i64 s.bep, .int .i64 s.bp.k, .string (strT s.bp.n), .string (strT s.bp.o), .int .i64 s.bp.a, .int .i64 s.bp.b, .int .i64 s.due, .int .i64 s.ack, .int .i64 s.told, s.j.val, s.m.val]
theorem Sta.size (s : Sta) : s.cells.size = 25 := by simp [Sta.cells]
theorem Sta.bsize (s : Sta) : s.bar.size = 14 := by simp [Sta.bar]
structure StaOk (w : World) (s : Sta) : Prop where
  f : FSOk w s.f
  j : FSOk w s.j
  m : FSOk w s.m
  big : s.p.n.length ≤ 9223372036854775807 ∧ s.p.o.length ≤ 9223372036854775807 ∧ s.bp.n.length ≤ 9223372036854775807 ∧ s.bp.o.length ≤ 9223372036854775807
theorem StaOk.below {w w' : World} {s : Sta} (h : StaOk w s) (hb : Below w.heap.size w w') : StaOk w' s := ⟨h.f.below hb, h.j.below hb, h.m.below hb, h.big⟩
theorem StaOk.zero (w : World) : StaOk w sta0 := ⟨FSOk.zero w, FSOk.zero w, FSOk.zero w, by decide, by decide, by decide, by decide⟩
theorem Sta.cut_all (s : Sta) : cut s.cells 0 25 = s.cells := by
  unfold cut
  rw [Nat.zero_add, ← s.size, Array.extract_size]
theorem Sta.cut_p (s : Sta) : cut s.cells 5 5 = s.p.cells := by simp [cut, Sta.cells, Pl.cells]
theorem Sta.cut_bar (s : Sta) : cut s.cells 11 14 = s.bar := by simp [cut, Sta.cells, Sta.bar]
theorem Sta.cut_bp (s : Sta) : cut s.cells 15 5 = s.bp.cells := by simp [cut, Sta.cells, Pl.cells]
theorem Sta.bcut_all (s : Sta) : cut s.bar 0 14 = s.bar := by
  unfold cut
  rw [Nat.zero_add, ← s.bsize, Array.extract_size]
theorem Sta.bcut_p (s : Sta) : cut s.bar 4 5 = s.bp.cells := by simp [cut, Sta.bar, Pl.cells]
theorem Pl.cut_all (p : Pl) : cut p.cells 0 5 = p.cells := by
  unfold cut
  rw [Nat.zero_add, ← p.size, Array.extract_size]
theorem Sta.splice_all (s : Sta) (c : Array Value) (h : c.size = 25) : splice c 0 s.cells = s.cells := by
  unfold splice
  rw [s.size]
  simp [List.drop_of_length_le, h]
theorem Sta.bsplice_all (s : Sta) (c : Array Value) (h : c.size = 14) : splice c 0 s.bar = s.bar := by
  unfold splice
  rw [s.bsize]
  simp [List.drop_of_length_le, h]
theorem Pl.splice_all (p : Pl) (c : Array Value) (h : c.size = 5) : splice c 0 p.cells = p.cells := by
  unfold splice
  rw [p.size]
  simp [List.drop_of_length_le, h]
theorem Sta.splice_bar (s t : Sta) : splice s.cells 11 t.bar = ({ s with bn := t.bn, bst := t.bst, bnum := t.bnum, bep := t.bep, bp := t.bp, due := t.due, ack := t.ack, told := t.told, j := t.j, m := t.m } : Sta).cells := by simp [splice, Sta.cells, Sta.bar]
theorem Sta.get0 (s : Sta) : s.cells[0]? = some (.int .i64 s.self) := by simp [Sta.cells, FS.val]
theorem Sta.getE0 (s : Sta) (h : 0 < s.cells.size) : s.cells[0] = .int .i64 s.self := by simp [Sta.cells, FS.val]
theorem Sta.set0 (s : Sta) (x : Int) : s.cells.setIfInBounds 0 (.int .i64 x) = ({ s with self := x } : Sta).cells := by simp [Sta.cells]
theorem Sta.get1 (s : Sta) : s.cells[1]? = some (.int .i64 s.nn) := by simp [Sta.cells, FS.val]
theorem Sta.getE1 (s : Sta) (h : 1 < s.cells.size) : s.cells[1] = .int .i64 s.nn := by simp [Sta.cells, FS.val]
theorem Sta.set1 (s : Sta) (x : Int) : s.cells.setIfInBounds 1 (.int .i64 x) = ({ s with nn := x } : Sta).cells := by simp [Sta.cells]
theorem Sta.get2 (s : Sta) : s.cells[2]? = some (.int .i64 s.clk) := by simp [Sta.cells, FS.val]
theorem Sta.getE2 (s : Sta) (h : 2 < s.cells.size) : s.cells[2] = .int .i64 s.clk := by simp [Sta.cells, FS.val]
theorem Sta.set2 (s : Sta) (x : Int) : s.cells.setIfInBounds 2 (.int .i64 x) = ({ s with clk := x } : Sta).cells := by simp [Sta.cells]
theorem Sta.get3 (s : Sta) : s.cells[3]? = some (.int .i64 s.dec) := by simp [Sta.cells, FS.val]
theorem Sta.getE3 (s : Sta) (h : 3 < s.cells.size) : s.cells[3] = .int .i64 s.dec := by simp [Sta.cells, FS.val]
theorem Sta.set3 (s : Sta) (x : Int) : s.cells.setIfInBounds 3 (.int .i64 x) = ({ s with dec := x } : Sta).cells := by simp [Sta.cells]
theorem Sta.get4 (s : Sta) : s.cells[4]? = some (.int .i64 s.frz) := by simp [Sta.cells, FS.val]
theorem Sta.getE4 (s : Sta) (h : 4 < s.cells.size) : s.cells[4] = .int .i64 s.frz := by simp [Sta.cells, FS.val]
theorem Sta.set4 (s : Sta) (x : Int) : s.cells.setIfInBounds 4 (.int .i64 x) = ({ s with frz := x } : Sta).cells := by simp [Sta.cells]
theorem Sta.get5 (s : Sta) : s.cells[5]? = some (.int .i64 s.p.k) := by simp [Sta.cells, FS.val]
theorem Sta.getE5 (s : Sta) (h : 5 < s.cells.size) : s.cells[5] = .int .i64 s.p.k := by simp [Sta.cells, FS.val]
theorem Sta.set5 (s : Sta) (x : Int) : s.cells.setIfInBounds 5 (.int .i64 x) = ({ s with p := { s.p with k := x } } : Sta).cells := by simp [Sta.cells]
theorem Sta.get6 (s : Sta) : s.cells[6]? = some (.string (strT s.p.n)) := by simp [Sta.cells, FS.val]
theorem Sta.getE6 (s : Sta) (h : 6 < s.cells.size) : s.cells[6] = .string (strT s.p.n) := by simp [Sta.cells, FS.val]
theorem Sta.set6 (s : Sta) (x : List UInt8) : s.cells.setIfInBounds 6 (.string (strT x)) = ({ s with p := { s.p with n := x } } : Sta).cells := by simp [Sta.cells]
theorem Sta.get7 (s : Sta) : s.cells[7]? = some (.string (strT s.p.o)) := by simp [Sta.cells, FS.val]
theorem Sta.getE7 (s : Sta) (h : 7 < s.cells.size) : s.cells[7] = .string (strT s.p.o) := by simp [Sta.cells, FS.val]
theorem Sta.set7 (s : Sta) (x : List UInt8) : s.cells.setIfInBounds 7 (.string (strT x)) = ({ s with p := { s.p with o := x } } : Sta).cells := by simp [Sta.cells]
theorem Sta.get8 (s : Sta) : s.cells[8]? = some (.int .i64 s.p.a) := by simp [Sta.cells, FS.val]
theorem Sta.getE8 (s : Sta) (h : 8 < s.cells.size) : s.cells[8] = .int .i64 s.p.a := by simp [Sta.cells, FS.val]
theorem Sta.set8 (s : Sta) (x : Int) : s.cells.setIfInBounds 8 (.int .i64 x) = ({ s with p := { s.p with a := x } } : Sta).cells := by simp [Sta.cells]
theorem Sta.get9 (s : Sta) : s.cells[9]? = some (.int .i64 s.p.b) := by simp [Sta.cells, FS.val]
theorem Sta.getE9 (s : Sta) (h : 9 < s.cells.size) : s.cells[9] = .int .i64 s.p.b := by simp [Sta.cells, FS.val]
theorem Sta.set9 (s : Sta) (x : Int) : s.cells.setIfInBounds 9 (.int .i64 x) = ({ s with p := { s.p with b := x } } : Sta).cells := by simp [Sta.cells]
theorem Sta.get10 (s : Sta) : s.cells[10]? = some (.slice s.f.A s.f.n s.f.c) := by simp [Sta.cells, FS.val]
theorem Sta.getE10 (s : Sta) (h : 10 < s.cells.size) : s.cells[10] = .slice s.f.A s.f.n s.f.c := by simp [Sta.cells, FS.val]
theorem Sta.set10 (s : Sta) (A : Option Addr) (n c : Nat) (l : Nat → Fld) : s.cells.setIfInBounds 10 (.slice A n c) = ({ s with f := ⟨A, n, c, l⟩ } : Sta).cells := by simp [Sta.cells, FS.val]
theorem Sta.get11 (s : Sta) : s.cells[11]? = some (.int .i64 s.bn) := by simp [Sta.cells, FS.val]
theorem Sta.getE11 (s : Sta) (h : 11 < s.cells.size) : s.cells[11] = .int .i64 s.bn := by simp [Sta.cells, FS.val]
theorem Sta.set11 (s : Sta) (x : Int) : s.cells.setIfInBounds 11 (.int .i64 x) = ({ s with bn := x } : Sta).cells := by simp [Sta.cells]
theorem Sta.get12 (s : Sta) : s.cells[12]? = some (.int .i64 s.bst) := by simp [Sta.cells, FS.val]
theorem Sta.getE12 (s : Sta) (h : 12 < s.cells.size) : s.cells[12] = .int .i64 s.bst := by simp [Sta.cells, FS.val]
theorem Sta.set12 (s : Sta) (x : Int) : s.cells.setIfInBounds 12 (.int .i64 x) = ({ s with bst := x } : Sta).cells := by simp [Sta.cells]
theorem Sta.get13 (s : Sta) : s.cells[13]? = some (.int .i64 s.bnum) := by simp [Sta.cells, FS.val]
theorem Sta.getE13 (s : Sta) (h : 13 < s.cells.size) : s.cells[13] = .int .i64 s.bnum := by simp [Sta.cells, FS.val]
theorem Sta.set13 (s : Sta) (x : Int) : s.cells.setIfInBounds 13 (.int .i64 x) = ({ s with bnum := x } : Sta).cells := by simp [Sta.cells]
theorem Sta.get14 (s : Sta) : s.cells[14]? = some (.int .i64 s.bep) := by simp [Sta.cells, FS.val]
theorem Sta.getE14 (s : Sta) (h : 14 < s.cells.size) : s.cells[14] = .int .i64 s.bep := by simp [Sta.cells, FS.val]
theorem Sta.set14 (s : Sta) (x : Int) : s.cells.setIfInBounds 14 (.int .i64 x) = ({ s with bep := x } : Sta).cells := by simp [Sta.cells]
theorem Sta.get15 (s : Sta) : s.cells[15]? = some (.int .i64 s.bp.k) := by simp [Sta.cells, FS.val]
theorem Sta.getE15 (s : Sta) (h : 15 < s.cells.size) : s.cells[15] = .int .i64 s.bp.k := by simp [Sta.cells, FS.val]
theorem Sta.set15 (s : Sta) (x : Int) : s.cells.setIfInBounds 15 (.int .i64 x) = ({ s with bp := { s.bp with k := x } } : Sta).cells := by simp [Sta.cells]
theorem Sta.get16 (s : Sta) : s.cells[16]? = some (.string (strT s.bp.n)) := by simp [Sta.cells, FS.val]
theorem Sta.getE16 (s : Sta) (h : 16 < s.cells.size) : s.cells[16] = .string (strT s.bp.n) := by simp [Sta.cells, FS.val]
theorem Sta.set16 (s : Sta) (x : List UInt8) : s.cells.setIfInBounds 16 (.string (strT x)) = ({ s with bp := { s.bp with n := x } } : Sta).cells := by simp [Sta.cells]
theorem Sta.get17 (s : Sta) : s.cells[17]? = some (.string (strT s.bp.o)) := by simp [Sta.cells, FS.val]
theorem Sta.getE17 (s : Sta) (h : 17 < s.cells.size) : s.cells[17] = .string (strT s.bp.o) := by simp [Sta.cells, FS.val]
theorem Sta.set17 (s : Sta) (x : List UInt8) : s.cells.setIfInBounds 17 (.string (strT x)) = ({ s with bp := { s.bp with o := x } } : Sta).cells := by simp [Sta.cells]
theorem Sta.get18 (s : Sta) : s.cells[18]? = some (.int .i64 s.bp.a) := by simp [Sta.cells, FS.val]
theorem Sta.getE18 (s : Sta) (h : 18 < s.cells.size) : s.cells[18] = .int .i64 s.bp.a := by simp [Sta.cells, FS.val]
theorem Sta.set18 (s : Sta) (x : Int) : s.cells.setIfInBounds 18 (.int .i64 x) = ({ s with bp := { s.bp with a := x } } : Sta).cells := by simp [Sta.cells]
theorem Sta.get19 (s : Sta) : s.cells[19]? = some (.int .i64 s.bp.b) := by simp [Sta.cells, FS.val]
theorem Sta.getE19 (s : Sta) (h : 19 < s.cells.size) : s.cells[19] = .int .i64 s.bp.b := by simp [Sta.cells, FS.val]
theorem Sta.set19 (s : Sta) (x : Int) : s.cells.setIfInBounds 19 (.int .i64 x) = ({ s with bp := { s.bp with b := x } } : Sta).cells := by simp [Sta.cells]
theorem Sta.get20 (s : Sta) : s.cells[20]? = some (.int .i64 s.due) := by simp [Sta.cells, FS.val]
theorem Sta.getE20 (s : Sta) (h : 20 < s.cells.size) : s.cells[20] = .int .i64 s.due := by simp [Sta.cells, FS.val]
theorem Sta.set20 (s : Sta) (x : Int) : s.cells.setIfInBounds 20 (.int .i64 x) = ({ s with due := x } : Sta).cells := by simp [Sta.cells]
theorem Sta.get21 (s : Sta) : s.cells[21]? = some (.int .i64 s.ack) := by simp [Sta.cells, FS.val]
theorem Sta.getE21 (s : Sta) (h : 21 < s.cells.size) : s.cells[21] = .int .i64 s.ack := by simp [Sta.cells, FS.val]
theorem Sta.set21 (s : Sta) (x : Int) : s.cells.setIfInBounds 21 (.int .i64 x) = ({ s with ack := x } : Sta).cells := by simp [Sta.cells]
theorem Sta.get22 (s : Sta) : s.cells[22]? = some (.int .i64 s.told) := by simp [Sta.cells, FS.val]
theorem Sta.getE22 (s : Sta) (h : 22 < s.cells.size) : s.cells[22] = .int .i64 s.told := by simp [Sta.cells, FS.val]
theorem Sta.set22 (s : Sta) (x : Int) : s.cells.setIfInBounds 22 (.int .i64 x) = ({ s with told := x } : Sta).cells := by simp [Sta.cells]
theorem Sta.get23 (s : Sta) : s.cells[23]? = some (.slice s.j.A s.j.n s.j.c) := by simp [Sta.cells, FS.val]
theorem Sta.getE23 (s : Sta) (h : 23 < s.cells.size) : s.cells[23] = .slice s.j.A s.j.n s.j.c := by simp [Sta.cells, FS.val]
theorem Sta.set23 (s : Sta) (A : Option Addr) (n c : Nat) (l : Nat → Fld) : s.cells.setIfInBounds 23 (.slice A n c) = ({ s with j := ⟨A, n, c, l⟩ } : Sta).cells := by simp [Sta.cells, FS.val]
theorem Sta.get24 (s : Sta) : s.cells[24]? = some (.slice s.m.A s.m.n s.m.c) := by simp [Sta.cells, FS.val]
theorem Sta.getE24 (s : Sta) (h : 24 < s.cells.size) : s.cells[24] = .slice s.m.A s.m.n s.m.c := by simp [Sta.cells, FS.val]
theorem Sta.set24 (s : Sta) (A : Option Addr) (n c : Nat) (l : Nat → Fld) : s.cells.setIfInBounds 24 (.slice A n c) = ({ s with m := ⟨A, n, c, l⟩ } : Sta).cells := by simp [Sta.cells, FS.val]
theorem Sta.bget0 (s : Sta) : s.bar[0]? = some (.int .i64 s.bn) := by simp [Sta.bar, FS.val]
theorem Sta.bgetE0 (s : Sta) (h : 0 < s.bar.size) : s.bar[0] = .int .i64 s.bn := by simp [Sta.bar, FS.val]
theorem Sta.bget1 (s : Sta) : s.bar[1]? = some (.int .i64 s.bst) := by simp [Sta.bar, FS.val]
theorem Sta.bgetE1 (s : Sta) (h : 1 < s.bar.size) : s.bar[1] = .int .i64 s.bst := by simp [Sta.bar, FS.val]
theorem Sta.bget2 (s : Sta) : s.bar[2]? = some (.int .i64 s.bnum) := by simp [Sta.bar, FS.val]
theorem Sta.bgetE2 (s : Sta) (h : 2 < s.bar.size) : s.bar[2] = .int .i64 s.bnum := by simp [Sta.bar, FS.val]
theorem Sta.bget3 (s : Sta) : s.bar[3]? = some (.int .i64 s.bep) := by simp [Sta.bar, FS.val]
theorem Sta.bgetE3 (s : Sta) (h : 3 < s.bar.size) : s.bar[3] = .int .i64 s.bep := by simp [Sta.bar, FS.val]
theorem Sta.bget4 (s : Sta) : s.bar[4]? = some (.int .i64 s.bp.k) := by simp [Sta.bar, FS.val]
theorem Sta.bgetE4 (s : Sta) (h : 4 < s.bar.size) : s.bar[4] = .int .i64 s.bp.k := by simp [Sta.bar, FS.val]
theorem Sta.bget5 (s : Sta) : s.bar[5]? = some (.string (strT s.bp.n)) := by simp [Sta.bar, FS.val]
theorem Sta.bgetE5 (s : Sta) (h : 5 < s.bar.size) : s.bar[5] = .string (strT s.bp.n) := by simp [Sta.bar, FS.val]
theorem Sta.bget6 (s : Sta) : s.bar[6]? = some (.string (strT s.bp.o)) := by simp [Sta.bar, FS.val]
theorem Sta.bgetE6 (s : Sta) (h : 6 < s.bar.size) : s.bar[6] = .string (strT s.bp.o) := by simp [Sta.bar, FS.val]
theorem Sta.bget7 (s : Sta) : s.bar[7]? = some (.int .i64 s.bp.a) := by simp [Sta.bar, FS.val]
theorem Sta.bgetE7 (s : Sta) (h : 7 < s.bar.size) : s.bar[7] = .int .i64 s.bp.a := by simp [Sta.bar, FS.val]
theorem Sta.bget8 (s : Sta) : s.bar[8]? = some (.int .i64 s.bp.b) := by simp [Sta.bar, FS.val]
theorem Sta.bgetE8 (s : Sta) (h : 8 < s.bar.size) : s.bar[8] = .int .i64 s.bp.b := by simp [Sta.bar, FS.val]
theorem Sta.bget9 (s : Sta) : s.bar[9]? = some (.int .i64 s.due) := by simp [Sta.bar, FS.val]
theorem Sta.bgetE9 (s : Sta) (h : 9 < s.bar.size) : s.bar[9] = .int .i64 s.due := by simp [Sta.bar, FS.val]
theorem Sta.bget10 (s : Sta) : s.bar[10]? = some (.int .i64 s.ack) := by simp [Sta.bar, FS.val]
theorem Sta.bgetE10 (s : Sta) (h : 10 < s.bar.size) : s.bar[10] = .int .i64 s.ack := by simp [Sta.bar, FS.val]
theorem Sta.bget11 (s : Sta) : s.bar[11]? = some (.int .i64 s.told) := by simp [Sta.bar, FS.val]
theorem Sta.bgetE11 (s : Sta) (h : 11 < s.bar.size) : s.bar[11] = .int .i64 s.told := by simp [Sta.bar, FS.val]
theorem Sta.bget12 (s : Sta) : s.bar[12]? = some (.slice s.j.A s.j.n s.j.c) := by simp [Sta.bar, FS.val]
theorem Sta.bgetE12 (s : Sta) (h : 12 < s.bar.size) : s.bar[12] = .slice s.j.A s.j.n s.j.c := by simp [Sta.bar, FS.val]
theorem Sta.bget13 (s : Sta) : s.bar[13]? = some (.slice s.m.A s.m.n s.m.c) := by simp [Sta.bar, FS.val]
theorem Sta.bgetE13 (s : Sta) (h : 13 < s.bar.size) : s.bar[13] = .slice s.m.A s.m.n s.m.c := by simp [Sta.bar, FS.val]
theorem Pl.get0 (p : Pl) : p.cells[0]? = some (.int .i64 p.k) := by simp [Pl.cells]
theorem Pl.getE0 (p : Pl) (h : 0 < p.cells.size) : p.cells[0] = .int .i64 p.k := by simp [Pl.cells]
theorem Pl.get1 (p : Pl) : p.cells[1]? = some (.string (strT p.n)) := by simp [Pl.cells]
theorem Pl.getE1 (p : Pl) (h : 1 < p.cells.size) : p.cells[1] = .string (strT p.n) := by simp [Pl.cells]
theorem Pl.get2 (p : Pl) : p.cells[2]? = some (.string (strT p.o)) := by simp [Pl.cells]
theorem Pl.getE2 (p : Pl) (h : 2 < p.cells.size) : p.cells[2] = .string (strT p.o) := by simp [Pl.cells]
theorem Pl.get3 (p : Pl) : p.cells[3]? = some (.int .i64 p.a) := by simp [Pl.cells]
theorem Pl.getE3 (p : Pl) (h : 3 < p.cells.size) : p.cells[3] = .int .i64 p.a := by simp [Pl.cells]
theorem Pl.get4 (p : Pl) : p.cells[4]? = some (.int .i64 p.b) := by simp [Pl.cells]
theorem Pl.getE4 (p : Pl) (h : 4 < p.cells.size) : p.cells[4] = .int .i64 p.b := by simp [Pl.cells]
theorem Sta.one (s : Sta) : s.cells.all (fun v => v.oneCell') = true := by
  simp only [Sta.cells, Array.all_eq_true]
  intro i hi
  simp at hi
  rcases i with _ | _ | _ | _ | _ | _ | _ | _ | _ | _ | _ | _ | _ | _ | _ | _ | _ | _ | _ | _ | _ | _ | _ | _ | _ | i <;> first | rfl | omega
theorem Sta.bone (s : Sta) : s.bar.all (fun v => v.oneCell') = true := by
  simp only [Sta.bar, Array.all_eq_true]
  intro i hi
  simp at hi
  rcases i with _ | _ | _ | _ | _ | _ | _ | _ | _ | _ | _ | _ | _ | _ | i <;> first | rfl | omega
theorem Pl.one (p : Pl) : p.cells.all (fun v => v.oneCell') = true := by
  simp only [Pl.cells, Array.all_eq_true]
  intro i hi
  simp at hi
  rcases i with _ | _ | _ | _ | _ | i <;> first | rfl | omega
section
variable (ρ : Operand → Value) (d : Option Tmp) (T : TypeId) (p : String) (af : Array Edge) (gd : Option (Nat × Bool)) (x y : Operand) (w : World)
theorem xstore_sta : (execOp ρ ⟨d, .store 30 x y, T, p, af, gd⟩).run Tryz.prog w = storeAgg Tryz.prog w 30 (ρ x) (ρ y) := rfl
theorem xload_sta : (execOp ρ ⟨d, .load 30 x, T, p, af, gd⟩).run Tryz.prog w = loadAgg Tryz.prog w 30 (ρ x) := rfl
theorem xalloc_sta : (execOp ρ ⟨d, .alloc 30, T, p, af, gd⟩).run Tryz.prog w = .ok (.value (.pointer (some ⟨w.heap.size, 0, none⟩))) (w.alloc (.cells sta0.cells 30)) :=
  (exec_alloc ..).trans (allocAgg_ok (by kernel_rfl))
theorem xbuild_sta0 : (execOp ρ ⟨d, .build 30 #[], T, p, af, gd⟩).run Tryz.prog w = .ok (.value (.agg sta0.cells)) w := by kernel_rfl
end
theorem load_sta (w : World) (g o : Nat) (h : (rowAt w g).isSome = true) (hn : o + 25 ≤ (rowCells w g).size) :
    loadAgg Tryz.prog w 30 (.pointer (some ⟨g, o, none⟩)) = .ok (.value (.agg (cut (rowCells w g) o 25))) w := loadAgg_row Tryz.underlying30 rfl (by kernel_rfl) h hn
theorem load_sta_later {B : Nat} {w : World} (x : Later B w) (g o : Nat) (hg : g < B) :
    loadAgg Tryz.prog x.wd 30 (.pointer (some ⟨g, o, none⟩)) = if (rowAt w g).isSome = true ∧ o + 25 ≤ (rowCells w g).size then .ok (.value (.agg (cut (rowCells w g) o 25))) x.wd else stuckLoad Tryz.prog x.wd 30 g o :=
  loadAgg_later x Tryz.underlying30 rfl (by kernel_rfl) hg
theorem store_sta (w : World) (g o : Nat) (s : Sta) (h : (rowAt w g).isSome = true) (hn : o + 25 ≤ (rowCells w g).size) :
    storeAgg Tryz.prog w 30 (.pointer (some ⟨g, o, none⟩)) (.agg s.cells) = .ok .skip (w.setRow g (splice (rowCells w g) o s.cells)) :=
  storeAgg_row (by rw [s.size]; kernel_rfl) s.one h (by rw [s.size]; exact hn)
section
variable (ρ : Operand → Value) (d : Option Tmp) (T : TypeId) (p : String) (af : Array Edge) (gd : Option (Nat × Bool)) (x y : Operand) (w : World)
theorem xstore_bar : (execOp ρ ⟨d, .store 28 x y, T, p, af, gd⟩).run Tryz.prog w = storeAgg Tryz.prog w 28 (ρ x) (ρ y) := rfl
theorem xload_bar : (execOp ρ ⟨d, .load 28 x, T, p, af, gd⟩).run Tryz.prog w = loadAgg Tryz.prog w 28 (ρ x) := rfl
theorem xalloc_bar : (execOp ρ ⟨d, .alloc 28, T, p, af, gd⟩).run Tryz.prog w = .ok (.value (.pointer (some ⟨w.heap.size, 0, none⟩))) (w.alloc (.cells sta0.bar 28)) :=
  (exec_alloc ..).trans (allocAgg_ok (by kernel_rfl))
theorem xbuild_bar0 : (execOp ρ ⟨d, .build 28 #[], T, p, af, gd⟩).run Tryz.prog w = .ok (.value (.agg sta0.bar)) w := by kernel_rfl
end
theorem load_bar (w : World) (g o : Nat) (h : (rowAt w g).isSome = true) (hn : o + 14 ≤ (rowCells w g).size) :
    loadAgg Tryz.prog w 28 (.pointer (some ⟨g, o, none⟩)) = .ok (.value (.agg (cut (rowCells w g) o 14))) w := loadAgg_row Tryz.underlying28 rfl (by kernel_rfl) h hn
theorem load_bar_later {B : Nat} {w : World} (x : Later B w) (g o : Nat) (hg : g < B) :
    loadAgg Tryz.prog x.wd 28 (.pointer (some ⟨g, o, none⟩)) = if (rowAt w g).isSome = true ∧ o + 14 ≤ (rowCells w g).size then .ok (.value (.agg (cut (rowCells w g) o 14))) x.wd else stuckLoad Tryz.prog x.wd 28 g o :=
  loadAgg_later x Tryz.underlying28 rfl (by kernel_rfl) hg
theorem store_bar (w : World) (g o : Nat) (s : Sta) (h : (rowAt w g).isSome = true) (hn : o + 14 ≤ (rowCells w g).size) :
    storeAgg Tryz.prog w 28 (.pointer (some ⟨g, o, none⟩)) (.agg s.bar) = .ok .skip (w.setRow g (splice (rowCells w g) o s.bar)) :=
  storeAgg_row (by rw [s.bsize]; kernel_rfl) s.bone h (by rw [s.bsize]; exact hn)
section
variable (ρ : Operand → Value) (d : Option Tmp) (T : TypeId) (p : String) (af : Array Edge) (gd : Option (Nat × Bool)) (x y : Operand) (w : World)
theorem xstore_plan : (execOp ρ ⟨d, .store 25 x y, T, p, af, gd⟩).run Tryz.prog w = storeAgg Tryz.prog w 25 (ρ x) (ρ y) := rfl
theorem xload_plan : (execOp ρ ⟨d, .load 25 x, T, p, af, gd⟩).run Tryz.prog w = loadAgg Tryz.prog w 25 (ρ x) := rfl
theorem xalloc_plan : (execOp ρ ⟨d, .alloc 25, T, p, af, gd⟩).run Tryz.prog w = .ok (.value (.pointer (some ⟨w.heap.size, 0, none⟩))) (w.alloc (.cells pl0.cells 25)) :=
  (exec_alloc ..).trans (allocAgg_ok (by kernel_rfl))
theorem xbuild_plan0 : (execOp ρ ⟨d, .build 25 #[], T, p, af, gd⟩).run Tryz.prog w = .ok (.value (.agg pl0.cells)) w := by kernel_rfl
end
theorem load_plan (w : World) (g o : Nat) (h : (rowAt w g).isSome = true) (hn : o + 5 ≤ (rowCells w g).size) :
    loadAgg Tryz.prog w 25 (.pointer (some ⟨g, o, none⟩)) = .ok (.value (.agg (cut (rowCells w g) o 5))) w := loadAgg_row Tryz.underlying25 rfl (by kernel_rfl) h hn
theorem load_plan_later {B : Nat} {w : World} (x : Later B w) (g o : Nat) (hg : g < B) :
    loadAgg Tryz.prog x.wd 25 (.pointer (some ⟨g, o, none⟩)) = if (rowAt w g).isSome = true ∧ o + 5 ≤ (rowCells w g).size then .ok (.value (.agg (cut (rowCells w g) o 5))) x.wd else stuckLoad Tryz.prog x.wd 25 g o :=
  loadAgg_later x Tryz.underlying25 rfl (by kernel_rfl) hg
theorem store_plan (w : World) (g o : Nat) (p : Pl) (h : (rowAt w g).isSome = true) (hn : o + 5 ≤ (rowCells w g).size) :
    storeAgg Tryz.prog w 25 (.pointer (some ⟨g, o, none⟩)) (.agg p.cells) = .ok .skip (w.setRow g (splice (rowCells w g) o p.cells)) :=
  storeAgg_row (by rw [p.size]; kernel_rfl) p.one h (by rw [p.size]; exact hn)
end Go.Proofs.YtinhaipnmmgplaaGreat
