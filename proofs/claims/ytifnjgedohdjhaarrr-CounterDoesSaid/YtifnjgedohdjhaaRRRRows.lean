/-
  No cell of these rows narrows 'for every input' (looked for: loops, veiled, ifaces, maps, wideKeys, modest, calm, conditions, laid).
  DERIVED. THE GIVEN ROWS OF THIS SEAT. 3 by the template 'for every input the law returns true; each argument reads behind the call as it read before'; 0 by the template 'total and deterministic' (their statements: YtifnjgedohdjhaaRRRTotals.lean).
  GIVEN WITH THE SEED: the statements are not yours to turn. If you find one false, say at which input.
  Laid BY PROGRAM, IN A SANDBOX (cutbox-rows.mjs): the forced cells as the released guide's own fill.sh prints them over the translation 709ac7b94e6361a2… (all of the seat's roots in one cut). By AI agents, Wed Nov 11 2026. No macro, syntax, notation, axiom, sorry.
-/
import Derived.Test.YtifnjgedohdjhaaRRRChecked
import GoSem.Claim
import GoSem.ClaimJoined
import GoSem.ClaimMapViews
import Derived.JoinedTies
import Derived.KernelRfl
namespace Go.Proofs.YtifnjgedohdjhaaRRR
/- THE CELL 'sum', in the pinned program and in every row, IS THE sha256 OF THE DUMP (.gsa) THAT YtifnjgedohdjhaaRRRProg.lean LOADS. Nothing in Lean hashes anything: it is a label: what it is worth is what the hold of that sum in a sandbox is worth. -/
noncomputable def Try.pinned : Pinned := { name := "ytifnjgedohdjhaarrr", sum := "709ac7b94e6361a22681a493d62b198a0e6025538fa92efcfc3ef87e7e315b9a", checked := Try.checked }
namespace Rows
def none {H : Type} : Left H := { results := [], args := [] }

/-- 'usufructlaw04.CounterMakes': WHATEVER THE INPUT: true; the input reads as it did. -/
def counterMakesSpec : ChangeSpec := { name := "counterMakes", fn := fun _ => fun
  | [d1, d2, d3] => { results := [.lit (.bool true)], args := [d1, d2, d3] }
  | _ => none }
def counterMakesRow : OpenClaim := { program := "ytifnjgedohdjhaarrr", sum := "709ac7b94e6361a22681a493d62b198a0e6025538fa92efcfc3ef87e7e315b9a", func := "usufruct/usufructlaw04.CounterMakes", spec := "counterMakes", unfollowed := true, recurses := true, apart := false }
def CounterMakesSaid : Prop := counterMakesRow.holds Try.pinned (OpenSpec.ofChange counterMakesSpec)

/-- ITS FALSE NEIGHBOUR: 'it returns false'. Refute it at one input. -/
def counterMakesWrong : ChangeSpec := { name := "counterMakes", fn := fun _ => fun
  | [d1, d2, d3] => { results := [.lit (.bool false)], args := [d1, d2, d3] }
  | _ => none }
def CounterMakesWrongFalsely : Prop := counterMakesRow.holds Try.pinned (OpenSpec.ofChange counterMakesWrong)

/-- 'usufructlaw04.CounterTells': WHATEVER THE INPUT: true; the input reads as it did. -/
def counterTellsSpec : ChangeSpec := { name := "counterTells", fn := fun _ => fun
  | [d1, d2] => { results := [.lit (.bool true)], args := [d1, d2] }
  | _ => none }
def counterTellsRow : OpenClaim := { program := "ytifnjgedohdjhaarrr", sum := "709ac7b94e6361a22681a493d62b198a0e6025538fa92efcfc3ef87e7e315b9a", func := "usufruct/usufructlaw04.CounterTells", spec := "counterTells", unfollowed := true, recurses := true, apart := false }
def CounterTellsSaid : Prop := counterTellsRow.holds Try.pinned (OpenSpec.ofChange counterTellsSpec)

/-- ITS FALSE NEIGHBOUR: 'it returns false'. Refute it at one input. -/
def counterTellsWrong : ChangeSpec := { name := "counterTells", fn := fun _ => fun
  | [d1, d2] => { results := [.lit (.bool false)], args := [d1, d2] }
  | _ => none }
def CounterTellsWrongFalsely : Prop := counterTellsRow.holds Try.pinned (OpenSpec.ofChange counterTellsWrong)

/-- 'usufructlaw04.CounterDoes': WHATEVER THE INPUT: true; the input reads as it did. -/
def counterDoesSpec : ChangeSpec := { name := "counterDoes", fn := fun _ => fun
  | [d1, d2, d3, d4, d5, d6] => { results := [.lit (.bool true)], args := [d1, d2, d3, d4, d5, d6] }
  | _ => none }
def counterDoesRow : OpenClaim := { program := "ytifnjgedohdjhaarrr", sum := "709ac7b94e6361a22681a493d62b198a0e6025538fa92efcfc3ef87e7e315b9a", func := "usufruct/usufructlaw04.CounterDoes", spec := "counterDoes", unfollowed := true, recurses := true, apart := false }
def CounterDoesSaid : Prop := counterDoesRow.holds Try.pinned (OpenSpec.ofChange counterDoesSpec)

/-- ITS FALSE NEIGHBOUR: 'it returns false'. Refute it at one input. -/
def counterDoesWrong : ChangeSpec := { name := "counterDoes", fn := fun _ => fun
  | [d1, d2, d3, d4, d5, d6] => { results := [.lit (.bool false)], args := [d1, d2, d3, d4, d5, d6] }
  | _ => none }
def CounterDoesWrongFalsely : Prop := counterDoesRow.holds Try.pinned (OpenSpec.ofChange counterDoesWrong)

/- THE SECOND FORM. 'bulk': how many values and letters a reading holds, each counted each time it is reached (what is shared counts as often as it is met; a slice's spare places count too). A statement '..UptoSaid' is the law's where the arguments, and the package variables that the reading takes, are together of bulk at most 1048576: NARROWER than '..Said'. Prove '..Said' where nothing that the law and all that it calls make is longer than what came in: it says more and counts as full. Else prove '..UptoSaid'. A law counts once. -/
mutual
def uptoBulk {H : Type} : DataW H → Nat
  | .lit (.string bytes) => bytes.length + 1
  | .lit _ => 1
  | .nil => 1
  | .ptr d => uptoBulk d + 1
  | .slice elems spare => uptoBulkAll elems + uptoBulkAll spare + 1
  | .agg parts => uptoBulkAll parts + 1
  | .iface _ d => uptoBulk d + 1
  | .map entries => uptoBulkEntries entries + 1
  | .held _ => 1
def uptoBulkAll {H : Type} : List (DataW H) → Nat
  | [] => 0
  | d :: r => uptoBulk d + uptoBulkAll r
def uptoBulkEntries {H : Type} : List (Lit × DataW H) → Nat
  | [] => 0
  | x :: r => uptoBulkEntry x + uptoBulkEntries r
def uptoBulkEntry {H : Type} : Lit × DataW H → Nat
  | (.string bytes, d) => bytes.length + uptoBulk d + 1
  | (_, d) => uptoBulk d + 1
 end
def uptoSmall : (H : Type) → List (DataW H) → Bool := fun _ ds => decide (uptoBulkAll ds ≤ 1048576)
def OpenSpec.upto (s : _root_.Go.ChangeSpec) : _root_.Go.OpenSpec := { _root_.Go.OpenSpec.ofChange s with cond := some uptoSmall }

/-- 'usufructlaw04.CounterMakes', WHERE WHAT IT READS IS OF BULK AT MOST 1048576: true; the input reads as it did. -/
def counterMakesUptoRow : OpenClaim := { program := "ytifnjgedohdjhaarrr", sum := "709ac7b94e6361a22681a493d62b198a0e6025538fa92efcfc3ef87e7e315b9a", func := "usufruct/usufructlaw04.CounterMakes", spec := "counterMakes", unfollowed := true, recurses := true, apart := false, narrowed := true }
def CounterMakesUptoSaid : Prop := counterMakesUptoRow.holds Try.pinned (OpenSpec.upto counterMakesSpec)

/-- 'usufructlaw04.CounterTells', WHERE WHAT IT READS IS OF BULK AT MOST 1048576: true; the input reads as it did. -/
def counterTellsUptoRow : OpenClaim := { program := "ytifnjgedohdjhaarrr", sum := "709ac7b94e6361a22681a493d62b198a0e6025538fa92efcfc3ef87e7e315b9a", func := "usufruct/usufructlaw04.CounterTells", spec := "counterTells", unfollowed := true, recurses := true, apart := false, narrowed := true }
def CounterTellsUptoSaid : Prop := counterTellsUptoRow.holds Try.pinned (OpenSpec.upto counterTellsSpec)

/-- 'usufructlaw04.CounterDoes', WHERE WHAT IT READS IS OF BULK AT MOST 1048576: true; the input reads as it did. -/
def counterDoesUptoRow : OpenClaim := { program := "ytifnjgedohdjhaarrr", sum := "709ac7b94e6361a22681a493d62b198a0e6025538fa92efcfc3ef87e7e315b9a", func := "usufruct/usufructlaw04.CounterDoes", spec := "counterDoes", unfollowed := true, recurses := true, apart := false, narrowed := true }
def CounterDoesUptoSaid : Prop := counterDoesUptoRow.holds Try.pinned (OpenSpec.upto counterDoesSpec)

end Rows
end Go.Proofs.YtifnjgedohdjhaaRRR
