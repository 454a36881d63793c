/-
  NARROWER THAN 'FOR EVERY INPUT', by the rows' own cells (each row's printed sentence says how): WlogTurned: laid · WlogTorn: laid · WlogFull: laid · WlogNobody: laid · WlogLast: laid · WlogPlays: laid.
  DERIVED. THE GIVEN ROWS OF THIS SEAT. 6 by the template 'for every input the law returns true; each argument reads behind the call as it read before'; 0 by the template 'total and deterministic' (their statements: YtfnbcafilbafgaaDoorTotals.lean).
  GIVEN WITH THE SEED: the statements are not yours to turn. If you find one false, say at which input.
  Laid BY PROGRAM, IN A SANDBOX (cutbox-rows.mjs): the forced cells as the released guide's own fill.sh prints them over the translation e149dfb4dde52506… (all of the seat's roots in one cut). By AI agents, Wed Nov 11 2026. No macro, syntax, notation, axiom, sorry.
-/
import Derived.Test.YtfnbcafilbafgaaDoorChecked
import GoSem.Claim
import GoSem.ClaimJoined
import GoSem.ClaimMapViews
import Derived.JoinedTies
import Derived.KernelRfl
namespace Go.Proofs.YtfnbcafilbafgaaDoor
/- THE CELL 'sum', in the pinned program and in every row, IS THE sha256 OF THE DUMP (.gsa) THAT YtfnbcafilbafgaaDoorProg.lean LOADS. Nothing in Lean hashes anything: it is a label: what it is worth is what the hold of that sum in a sandbox is worth. -/
noncomputable def Tryd.pinned : Pinned := { name := "ytfnbcafilbafgaadoor", sum := "e149dfb4dde52506f8a1bbf9925f67f2d1721af0309336294b0a7d15f92770a3", checked := Tryd.checked }
namespace Rows
def none {H : Type} : Left H := { results := [], args := [] }

/- WHAT THE LISTED PACKAGE-LEVEL VARIABLES READ AS WHEN THE CALL BEGINS. Each datum BY PROGRAM (the guide's laid-datum.mjs) off the statement by which the dump's own 'gosem.cut.vars' lays the variable. In a bare row this is a premise. The card (YtfnbcafilbafgaaDoorCards.lean) ties it to the program's text. -/
def laid_usufruct_frame_nibbles {H : Type} : DataW H := .agg [.lit (.int .u32 0), .lit (.int .u32 498536548), .lit (.int .u32 997073096), .lit (.int .u32 651767980), .lit (.int .u32 1994146192), .lit (.int .u32 1802195444), .lit (.int .u32 1303535960), .lit (.int .u32 1342533948), .lit (.int .u32 3988292384), .lit (.int .u32 4027552580), .lit (.int .u32 3604390888), .lit (.int .u32 3412177804), .lit (.int .u32 2607071920), .lit (.int .u32 2262029012), .lit (.int .u32 2685067896), .lit (.int .u32 3183342108)]

/-- 'usufructlaw12.WlogTurned': WHATEVER THE INPUT: true; the input reads as it did. -/
def wlogTurnedSpec : ChangeSpec := { name := "wlogTurned", fn := fun _ => fun
  | [d1, d2, d3] => { results := [.lit (.bool true)], args := [d1, d2, d3] }
  | _ => none }
def wlogTurnedRow : OpenClaim := { program := "ytfnbcafilbafgaadoor", sum := "e149dfb4dde52506f8a1bbf9925f67f2d1721af0309336294b0a7d15f92770a3", func := "usufruct/usufructlaw12.WlogTurned", spec := "wlogTurned", named := ["usufruct/frame.nibbles"], apart := false, laid := [("usufruct/frame.nibbles", laid_usufruct_frame_nibbles)] }
def WlogTurnedSaid : Prop := wlogTurnedRow.holds Tryd.pinned (OpenSpec.ofChange wlogTurnedSpec)

/-- ITS FALSE NEIGHBOUR: 'it returns false'. Refute it at one input. -/
def wlogTurnedWrong : ChangeSpec := { name := "wlogTurned", fn := fun _ => fun
  | [d1, d2, d3] => { results := [.lit (.bool false)], args := [d1, d2, d3] }
  | _ => none }
def WlogTurnedWrongFalsely : Prop := wlogTurnedRow.holds Tryd.pinned (OpenSpec.ofChange wlogTurnedWrong)

/-- 'usufructlaw12.WlogTorn': WHATEVER THE INPUT: true; the input reads as it did. -/
def wlogTornSpec : ChangeSpec := { name := "wlogTorn", fn := fun _ => fun
  | [d1, d2] => { results := [.lit (.bool true)], args := [d1, d2] }
  | _ => none }
def wlogTornRow : OpenClaim := { program := "ytfnbcafilbafgaadoor", sum := "e149dfb4dde52506f8a1bbf9925f67f2d1721af0309336294b0a7d15f92770a3", func := "usufruct/usufructlaw12.WlogTorn", spec := "wlogTorn", named := ["usufruct/frame.nibbles"], apart := false, laid := [("usufruct/frame.nibbles", laid_usufruct_frame_nibbles)] }
def WlogTornSaid : Prop := wlogTornRow.holds Tryd.pinned (OpenSpec.ofChange wlogTornSpec)

/-- ITS FALSE NEIGHBOUR: 'it returns false'. Refute it at one input. -/
def wlogTornWrong : ChangeSpec := { name := "wlogTorn", fn := fun _ => fun
  | [d1, d2] => { results := [.lit (.bool false)], args := [d1, d2] }
  | _ => none }
def WlogTornWrongFalsely : Prop := wlogTornRow.holds Tryd.pinned (OpenSpec.ofChange wlogTornWrong)

/-- 'usufructlaw12.WlogFull': WHATEVER THE INPUT: true; the input reads as it did. -/
def wlogFullSpec : ChangeSpec := { name := "wlogFull", fn := fun _ => fun
  | [d1, d2] => { results := [.lit (.bool true)], args := [d1, d2] }
  | _ => none }
def wlogFullRow : OpenClaim := { program := "ytfnbcafilbafgaadoor", sum := "e149dfb4dde52506f8a1bbf9925f67f2d1721af0309336294b0a7d15f92770a3", func := "usufruct/usufructlaw12.WlogFull", spec := "wlogFull", named := ["usufruct/frame.nibbles"], apart := false, laid := [("usufruct/frame.nibbles", laid_usufruct_frame_nibbles)] }
def WlogFullSaid : Prop := wlogFullRow.holds Tryd.pinned (OpenSpec.ofChange wlogFullSpec)

/-- ITS FALSE NEIGHBOUR: 'it returns false'. Refute it at one input. -/
def wlogFullWrong : ChangeSpec := { name := "wlogFull", fn := fun _ => fun
  | [d1, d2] => { results := [.lit (.bool false)], args := [d1, d2] }
  | _ => none }
def WlogFullWrongFalsely : Prop := wlogFullRow.holds Tryd.pinned (OpenSpec.ofChange wlogFullWrong)

/-- 'usufructlaw12.WlogNobody': WHATEVER THE INPUT: true; the input reads as it did. -/
def wlogNobodySpec : ChangeSpec := { name := "wlogNobody", fn := fun _ => fun
  | [d] => { results := [.lit (.bool true)], args := [d] }
  | _ => none }
def wlogNobodyRow : OpenClaim := { program := "ytfnbcafilbafgaadoor", sum := "e149dfb4dde52506f8a1bbf9925f67f2d1721af0309336294b0a7d15f92770a3", func := "usufruct/usufructlaw12.WlogNobody", spec := "wlogNobody", named := ["usufruct/frame.nibbles"], apart := false, laid := [("usufruct/frame.nibbles", laid_usufruct_frame_nibbles)] }
def WlogNobodySaid : Prop := wlogNobodyRow.holds Tryd.pinned (OpenSpec.ofChange wlogNobodySpec)

/-- ITS FALSE NEIGHBOUR: 'it returns false'. Refute it at one input. -/
def wlogNobodyWrong : ChangeSpec := { name := "wlogNobody", fn := fun _ => fun
  | [d] => { results := [.lit (.bool false)], args := [d] }
  | _ => none }
def WlogNobodyWrongFalsely : Prop := wlogNobodyRow.holds Tryd.pinned (OpenSpec.ofChange wlogNobodyWrong)

/-- 'usufructlaw12.WlogLast': WHATEVER THE INPUT: true; the input reads as it did. -/
def wlogLastSpec : ChangeSpec := { name := "wlogLast", fn := fun _ => fun
  | [d1, d2, d3] => { results := [.lit (.bool true)], args := [d1, d2, d3] }
  | _ => none }
def wlogLastRow : OpenClaim := { program := "ytfnbcafilbafgaadoor", sum := "e149dfb4dde52506f8a1bbf9925f67f2d1721af0309336294b0a7d15f92770a3", func := "usufruct/usufructlaw12.WlogLast", spec := "wlogLast", unfollowed := true, recurses := true, named := ["usufruct/frame.nibbles"], apart := false, laid := [("usufruct/frame.nibbles", laid_usufruct_frame_nibbles)] }
def WlogLastSaid : Prop := wlogLastRow.holds Tryd.pinned (OpenSpec.ofChange wlogLastSpec)

/-- ITS FALSE NEIGHBOUR: 'it returns false'. Refute it at one input. -/
def wlogLastWrong : ChangeSpec := { name := "wlogLast", fn := fun _ => fun
  | [d1, d2, d3] => { results := [.lit (.bool false)], args := [d1, d2, d3] }
  | _ => none }
def WlogLastWrongFalsely : Prop := wlogLastRow.holds Tryd.pinned (OpenSpec.ofChange wlogLastWrong)

/-- 'usufructlaw12.WlogPlays': WHATEVER THE INPUT: true; the input reads as it did. -/
def wlogPlaysSpec : ChangeSpec := { name := "wlogPlays", fn := fun _ => fun
  | [d1, d2] => { results := [.lit (.bool true)], args := [d1, d2] }
  | _ => none }
def wlogPlaysRow : OpenClaim := { program := "ytfnbcafilbafgaadoor", sum := "e149dfb4dde52506f8a1bbf9925f67f2d1721af0309336294b0a7d15f92770a3", func := "usufruct/usufructlaw12.WlogPlays", spec := "wlogPlays", unfollowed := true, recurses := true, named := ["usufruct/frame.nibbles"], apart := false, laid := [("usufruct/frame.nibbles", laid_usufruct_frame_nibbles)] }
def WlogPlaysSaid : Prop := wlogPlaysRow.holds Tryd.pinned (OpenSpec.ofChange wlogPlaysSpec)

/-- ITS FALSE NEIGHBOUR: 'it returns false'. Refute it at one input. -/
def wlogPlaysWrong : ChangeSpec := { name := "wlogPlays", fn := fun _ => fun
  | [d1, d2] => { results := [.lit (.bool false)], args := [d1, d2] }
  | _ => none }
def WlogPlaysWrongFalsely : Prop := wlogPlaysRow.holds Tryd.pinned (OpenSpec.ofChange wlogPlaysWrong)

/- THE SECOND FORM. 'bulk': how many values and letters a reading holds, each counted each time it is reached (what is shared counts as often as it is met; a slice's spare places count too). A statement '..UptoSaid' is the law's where the arguments, and the package variables that the reading takes, are together of bulk at most 1048576: NARROWER than '..Said'. Prove '..Said' where nothing that the law and all that it calls make is longer than what came in: it says more and counts as full. Else prove '..UptoSaid'. A law counts once. -/
mutual
def uptoBulk {H : Type} : DataW H → Nat
  | .lit (.string bytes) => bytes.length + 1
  | .lit _ => 1
  | .nil => 1
  | .ptr d => uptoBulk d + 1
  | .slice elems spare => uptoBulkAll elems + uptoBulkAll spare + 1
  | .agg parts => uptoBulkAll parts + 1
  | .iface _ d => uptoBulk d + 1
  | .map entries => uptoBulkEntries entries + 1
  | .held _ => 1
def uptoBulkAll {H : Type} : List (DataW H) → Nat
  | [] => 0
  | d :: r => uptoBulk d + uptoBulkAll r
def uptoBulkEntries {H : Type} : List (Lit × DataW H) → Nat
  | [] => 0
  | x :: r => uptoBulkEntry x + uptoBulkEntries r
def uptoBulkEntry {H : Type} : Lit × DataW H → Nat
  | (.string bytes, d) => bytes.length + uptoBulk d + 1
  | (_, d) => uptoBulk d + 1
 end
def uptoSmall : (H : Type) → List (DataW H) → Bool := fun _ ds => decide (uptoBulkAll ds ≤ 1048576)
def OpenSpec.upto (s : _root_.Go.ChangeSpec) : _root_.Go.OpenSpec := { _root_.Go.OpenSpec.ofChange s with cond := some uptoSmall }

/-- 'usufructlaw12.WlogTurned', WHERE WHAT IT READS IS OF BULK AT MOST 1048576: true; the input reads as it did. -/
def wlogTurnedUptoRow : OpenClaim := { program := "ytfnbcafilbafgaadoor", sum := "e149dfb4dde52506f8a1bbf9925f67f2d1721af0309336294b0a7d15f92770a3", func := "usufruct/usufructlaw12.WlogTurned", spec := "wlogTurned", named := ["usufruct/frame.nibbles"], apart := false, laid := [("usufruct/frame.nibbles", laid_usufruct_frame_nibbles)], narrowed := true }
def WlogTurnedUptoSaid : Prop := wlogTurnedUptoRow.holds Tryd.pinned (OpenSpec.upto wlogTurnedSpec)

/-- 'usufructlaw12.WlogTorn', WHERE WHAT IT READS IS OF BULK AT MOST 1048576: true; the input reads as it did. -/
def wlogTornUptoRow : OpenClaim := { program := "ytfnbcafilbafgaadoor", sum := "e149dfb4dde52506f8a1bbf9925f67f2d1721af0309336294b0a7d15f92770a3", func := "usufruct/usufructlaw12.WlogTorn", spec := "wlogTorn", named := ["usufruct/frame.nibbles"], apart := false, laid := [("usufruct/frame.nibbles", laid_usufruct_frame_nibbles)], narrowed := true }
def WlogTornUptoSaid : Prop := wlogTornUptoRow.holds Tryd.pinned (OpenSpec.upto wlogTornSpec)

/-- 'usufructlaw12.WlogFull', WHERE WHAT IT READS IS OF BULK AT MOST 1048576: true; the input reads as it did. -/
def wlogFullUptoRow : OpenClaim := { program := "ytfnbcafilbafgaadoor", sum := "e149dfb4dde52506f8a1bbf9925f67f2d1721af0309336294b0a7d15f92770a3", func := "usufruct/usufructlaw12.WlogFull", spec := "wlogFull", named := ["usufruct/frame.nibbles"], apart := false, laid := [("usufruct/frame.nibbles", laid_usufruct_frame_nibbles)], narrowed := true }
def WlogFullUptoSaid : Prop := wlogFullUptoRow.holds Tryd.pinned (OpenSpec.upto wlogFullSpec)

/-- 'usufructlaw12.WlogNobody', WHERE WHAT IT READS IS OF BULK AT MOST 1048576: true; the input reads as it did. -/
def wlogNobodyUptoRow : OpenClaim := { program := "ytfnbcafilbafgaadoor", sum := "e149dfb4dde52506f8a1bbf9925f67f2d1721af0309336294b0a7d15f92770a3", func := "usufruct/usufructlaw12.WlogNobody", spec := "wlogNobody", named := ["usufruct/frame.nibbles"], apart := false, laid := [("usufruct/frame.nibbles", laid_usufruct_frame_nibbles)], narrowed := true }
def WlogNobodyUptoSaid : Prop := wlogNobodyUptoRow.holds Tryd.pinned (OpenSpec.upto wlogNobodySpec)

/-- 'usufructlaw12.WlogLast', WHERE WHAT IT READS IS OF BULK AT MOST 1048576: true; the input reads as it did. -/
def wlogLastUptoRow : OpenClaim := { program := "ytfnbcafilbafgaadoor", sum := "e149dfb4dde52506f8a1bbf9925f67f2d1721af0309336294b0a7d15f92770a3", func := "usufruct/usufructlaw12.WlogLast", spec := "wlogLast", unfollowed := true, recurses := true, named := ["usufruct/frame.nibbles"], apart := false, laid := [("usufruct/frame.nibbles", laid_usufruct_frame_nibbles)], narrowed := true }
def WlogLastUptoSaid : Prop := wlogLastUptoRow.holds Tryd.pinned (OpenSpec.upto wlogLastSpec)

/-- 'usufructlaw12.WlogPlays', WHERE WHAT IT READS IS OF BULK AT MOST 1048576: true; the input reads as it did. -/
def wlogPlaysUptoRow : OpenClaim := { program := "ytfnbcafilbafgaadoor", sum := "e149dfb4dde52506f8a1bbf9925f67f2d1721af0309336294b0a7d15f92770a3", func := "usufruct/usufructlaw12.WlogPlays", spec := "wlogPlays", unfollowed := true, recurses := true, named := ["usufruct/frame.nibbles"], apart := false, laid := [("usufruct/frame.nibbles", laid_usufruct_frame_nibbles)], narrowed := true }
def WlogPlaysUptoSaid : Prop := wlogPlaysUptoRow.holds Tryd.pinned (OpenSpec.upto wlogPlaysSpec)

end Rows
end Go.Proofs.YtfnbcafilbafgaaDoor
