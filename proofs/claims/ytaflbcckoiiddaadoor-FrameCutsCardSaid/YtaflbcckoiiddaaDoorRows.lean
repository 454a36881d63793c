/-
  NARROWER THAN 'FOR EVERY INPUT', by the rows' own cells (each row's printed sentence says how): FrameSums: laid · FrameJoined: laid · FrameBack: laid · FrameTurned: laid · FrameTakes: laid · FrameScans: laid · FrameCuts: laid.
  DERIVED. THE GIVEN ROWS OF THIS SEAT. 7 by the template 'for every input the law returns true; each argument reads behind the call as it read before'; 0 by the template 'total and deterministic' (their statements: YtaflbcckoiiddaaDoorTotals.lean).
  GIVEN WITH THE SEED: the statements are not yours to turn. If you find one false, say at which input.
  Laid BY PROGRAM, IN A SANDBOX (cutbox-rows.mjs): the forced cells as the released guide's own fill.sh prints them over the translation 85d82d8d164e9fba… (all of the seat's roots in one cut). By AI agents, Wed Nov 11 2026. No macro, syntax, notation, axiom, sorry.
-/
import Derived.Test.YtaflbcckoiiddaaDoorChecked
import GoSem.Claim
import GoSem.ClaimJoined
import GoSem.ClaimMapViews
import Derived.JoinedTies
import Derived.KernelRfl
namespace Go.Proofs.YtaflbcckoiiddaaDoor
/- THE CELL 'sum', in the pinned program and in every row, IS THE sha256 OF THE DUMP (.gsa) THAT YtaflbcckoiiddaaDoorProg.lean LOADS. Nothing in Lean hashes anything: it is a label: what it is worth is what the hold of that sum in a sandbox is worth. -/
noncomputable def Tryd.pinned : Pinned := { name := "ytaflbcckoiiddaadoor", sum := "85d82d8d164e9fbae206cb0048f9d98cf813b4f66e32bd9329188ef8f5da4cc5", checked := Tryd.checked }
namespace Rows
def none {H : Type} : Left H := { results := [], args := [] }

/- WHAT THE LISTED PACKAGE-LEVEL VARIABLES READ AS WHEN THE CALL BEGINS. Each datum BY PROGRAM (the guide's laid-datum.mjs) off the statement by which the dump's own 'gosem.cut.vars' lays the variable. In a bare row this is a premise. The card (YtaflbcckoiiddaaDoorCards.lean) ties it to the program's text. -/
def laid_usufruct_frame_nibbles {H : Type} : DataW H := .agg [.lit (.int .u32 0), .lit (.int .u32 498536548), .lit (.int .u32 997073096), .lit (.int .u32 651767980), .lit (.int .u32 1994146192), .lit (.int .u32 1802195444), .lit (.int .u32 1303535960), .lit (.int .u32 1342533948), .lit (.int .u32 3988292384), .lit (.int .u32 4027552580), .lit (.int .u32 3604390888), .lit (.int .u32 3412177804), .lit (.int .u32 2607071920), .lit (.int .u32 2262029012), .lit (.int .u32 2685067896), .lit (.int .u32 3183342108)]

/-- 'usufructlaw09.FrameSums': WHATEVER THE INPUT: true; the input reads as it did. -/
def frameSumsSpec : ChangeSpec := { name := "frameSums", fn := fun _ => fun
  | [d] => { results := [.lit (.bool true)], args := [d] }
  | _ => none }
def frameSumsRow : OpenClaim := { program := "ytaflbcckoiiddaadoor", sum := "85d82d8d164e9fbae206cb0048f9d98cf813b4f66e32bd9329188ef8f5da4cc5", func := "usufruct/usufructlaw09.FrameSums", spec := "frameSums", named := ["usufruct/frame.nibbles"], apart := false, laid := [("usufruct/frame.nibbles", laid_usufruct_frame_nibbles)] }
def FrameSumsSaid : Prop := frameSumsRow.holds Tryd.pinned (OpenSpec.ofChange frameSumsSpec)

/-- ITS FALSE NEIGHBOUR: 'it returns false'. Refute it at one input. -/
def frameSumsWrong : ChangeSpec := { name := "frameSums", fn := fun _ => fun
  | [d] => { results := [.lit (.bool false)], args := [d] }
  | _ => none }
def FrameSumsWrongFalsely : Prop := frameSumsRow.holds Tryd.pinned (OpenSpec.ofChange frameSumsWrong)

/-- 'usufructlaw09.FrameJoined': WHATEVER THE INPUT: true; the input reads as it did. -/
def frameJoinedSpec : ChangeSpec := { name := "frameJoined", fn := fun _ => fun
  | [d1, d2, d3] => { results := [.lit (.bool true)], args := [d1, d2, d3] }
  | _ => none }
def frameJoinedRow : OpenClaim := { program := "ytaflbcckoiiddaadoor", sum := "85d82d8d164e9fbae206cb0048f9d98cf813b4f66e32bd9329188ef8f5da4cc5", func := "usufruct/usufructlaw09.FrameJoined", spec := "frameJoined", named := ["usufruct/frame.nibbles"], apart := false, laid := [("usufruct/frame.nibbles", laid_usufruct_frame_nibbles)] }
def FrameJoinedSaid : Prop := frameJoinedRow.holds Tryd.pinned (OpenSpec.ofChange frameJoinedSpec)

/-- ITS FALSE NEIGHBOUR: 'it returns false'. Refute it at one input. -/
def frameJoinedWrong : ChangeSpec := { name := "frameJoined", fn := fun _ => fun
  | [d1, d2, d3] => { results := [.lit (.bool false)], args := [d1, d2, d3] }
  | _ => none }
def FrameJoinedWrongFalsely : Prop := frameJoinedRow.holds Tryd.pinned (OpenSpec.ofChange frameJoinedWrong)

/-- 'usufructlaw09.FrameBack': WHATEVER THE INPUT: true; the input reads as it did. -/
def frameBackSpec : ChangeSpec := { name := "frameBack", fn := fun _ => fun
  | [d1, d2] => { results := [.lit (.bool true)], args := [d1, d2] }
  | _ => none }
def frameBackRow : OpenClaim := { program := "ytaflbcckoiiddaadoor", sum := "85d82d8d164e9fbae206cb0048f9d98cf813b4f66e32bd9329188ef8f5da4cc5", func := "usufruct/usufructlaw09.FrameBack", spec := "frameBack", named := ["usufruct/frame.nibbles"], apart := false, laid := [("usufruct/frame.nibbles", laid_usufruct_frame_nibbles)] }
def FrameBackSaid : Prop := frameBackRow.holds Tryd.pinned (OpenSpec.ofChange frameBackSpec)

/-- ITS FALSE NEIGHBOUR: 'it returns false'. Refute it at one input. -/
def frameBackWrong : ChangeSpec := { name := "frameBack", fn := fun _ => fun
  | [d1, d2] => { results := [.lit (.bool false)], args := [d1, d2] }
  | _ => none }
def FrameBackWrongFalsely : Prop := frameBackRow.holds Tryd.pinned (OpenSpec.ofChange frameBackWrong)

/-- 'usufructlaw09.FrameTurned': WHATEVER THE INPUT: true; the input reads as it did. -/
def frameTurnedSpec : ChangeSpec := { name := "frameTurned", fn := fun _ => fun
  | [d1, d2, d3] => { results := [.lit (.bool true)], args := [d1, d2, d3] }
  | _ => none }
def frameTurnedRow : OpenClaim := { program := "ytaflbcckoiiddaadoor", sum := "85d82d8d164e9fbae206cb0048f9d98cf813b4f66e32bd9329188ef8f5da4cc5", func := "usufruct/usufructlaw09.FrameTurned", spec := "frameTurned", named := ["usufruct/frame.nibbles"], apart := false, laid := [("usufruct/frame.nibbles", laid_usufruct_frame_nibbles)] }
def FrameTurnedSaid : Prop := frameTurnedRow.holds Tryd.pinned (OpenSpec.ofChange frameTurnedSpec)

/-- ITS FALSE NEIGHBOUR: 'it returns false'. Refute it at one input. -/
def frameTurnedWrong : ChangeSpec := { name := "frameTurned", fn := fun _ => fun
  | [d1, d2, d3] => { results := [.lit (.bool false)], args := [d1, d2, d3] }
  | _ => none }
def FrameTurnedWrongFalsely : Prop := frameTurnedRow.holds Tryd.pinned (OpenSpec.ofChange frameTurnedWrong)

/-- 'usufructlaw09.FrameTakes': WHATEVER THE INPUT: true; the input reads as it did. -/
def frameTakesSpec : ChangeSpec := { name := "frameTakes", fn := fun _ => fun
  | [d] => { results := [.lit (.bool true)], args := [d] }
  | _ => none }
def frameTakesRow : OpenClaim := { program := "ytaflbcckoiiddaadoor", sum := "85d82d8d164e9fbae206cb0048f9d98cf813b4f66e32bd9329188ef8f5da4cc5", func := "usufruct/usufructlaw09.FrameTakes", spec := "frameTakes", named := ["usufruct/frame.nibbles"], apart := false, laid := [("usufruct/frame.nibbles", laid_usufruct_frame_nibbles)] }
def FrameTakesSaid : Prop := frameTakesRow.holds Tryd.pinned (OpenSpec.ofChange frameTakesSpec)

/-- ITS FALSE NEIGHBOUR: 'it returns false'. Refute it at one input. -/
def frameTakesWrong : ChangeSpec := { name := "frameTakes", fn := fun _ => fun
  | [d] => { results := [.lit (.bool false)], args := [d] }
  | _ => none }
def FrameTakesWrongFalsely : Prop := frameTakesRow.holds Tryd.pinned (OpenSpec.ofChange frameTakesWrong)

/-- 'usufructlaw09.FrameScans': WHATEVER THE INPUT: true; the input reads as it did. -/
def frameScansSpec : ChangeSpec := { name := "frameScans", fn := fun _ => fun
  | [d1, d2] => { results := [.lit (.bool true)], args := [d1, d2] }
  | _ => none }
def frameScansRow : OpenClaim := { program := "ytaflbcckoiiddaadoor", sum := "85d82d8d164e9fbae206cb0048f9d98cf813b4f66e32bd9329188ef8f5da4cc5", func := "usufruct/usufructlaw09.FrameScans", spec := "frameScans", named := ["usufruct/frame.nibbles"], apart := false, laid := [("usufruct/frame.nibbles", laid_usufruct_frame_nibbles)] }
def FrameScansSaid : Prop := frameScansRow.holds Tryd.pinned (OpenSpec.ofChange frameScansSpec)

/-- ITS FALSE NEIGHBOUR: 'it returns false'. Refute it at one input. -/
def frameScansWrong : ChangeSpec := { name := "frameScans", fn := fun _ => fun
  | [d1, d2] => { results := [.lit (.bool false)], args := [d1, d2] }
  | _ => none }
def FrameScansWrongFalsely : Prop := frameScansRow.holds Tryd.pinned (OpenSpec.ofChange frameScansWrong)

/-- 'usufructlaw09.FrameCuts': WHATEVER THE INPUT: true; the input reads as it did. -/
def frameCutsSpec : ChangeSpec := { name := "frameCuts", fn := fun _ => fun
  | [d1, d2] => { results := [.lit (.bool true)], args := [d1, d2] }
  | _ => none }
def frameCutsRow : OpenClaim := { program := "ytaflbcckoiiddaadoor", sum := "85d82d8d164e9fbae206cb0048f9d98cf813b4f66e32bd9329188ef8f5da4cc5", func := "usufruct/usufructlaw09.FrameCuts", spec := "frameCuts", named := ["usufruct/frame.nibbles"], apart := false, laid := [("usufruct/frame.nibbles", laid_usufruct_frame_nibbles)] }
def FrameCutsSaid : Prop := frameCutsRow.holds Tryd.pinned (OpenSpec.ofChange frameCutsSpec)

/-- ITS FALSE NEIGHBOUR: 'it returns false'. Refute it at one input. -/
def frameCutsWrong : ChangeSpec := { name := "frameCuts", fn := fun _ => fun
  | [d1, d2] => { results := [.lit (.bool false)], args := [d1, d2] }
  | _ => none }
def FrameCutsWrongFalsely : Prop := frameCutsRow.holds Tryd.pinned (OpenSpec.ofChange frameCutsWrong)

/- THE SECOND FORM. 'bulk': how many values and letters a reading holds, each counted each time it is reached (what is shared counts as often as it is met; a slice's spare places count too). A statement '..UptoSaid' is the law's where the arguments, and the package variables that the reading takes, are together of bulk at most 1048576: NARROWER than '..Said'. Prove '..Said' where nothing that the law and all that it calls make is longer than what came in: it says more and counts as full. Else prove '..UptoSaid'. A law counts once. -/
mutual
def uptoBulk {H : Type} : DataW H → Nat
  | .lit (.string bytes) => bytes.length + 1
  | .lit _ => 1
  | .nil => 1
  | .ptr d => uptoBulk d + 1
  | .slice elems spare => uptoBulkAll elems + uptoBulkAll spare + 1
  | .agg parts => uptoBulkAll parts + 1
  | .iface _ d => uptoBulk d + 1
  | .map entries => uptoBulkEntries entries + 1
  | .held _ => 1
def uptoBulkAll {H : Type} : List (DataW H) → Nat
  | [] => 0
  | d :: r => uptoBulk d + uptoBulkAll r
def uptoBulkEntries {H : Type} : List (Lit × DataW H) → Nat
  | [] => 0
  | x :: r => uptoBulkEntry x + uptoBulkEntries r
def uptoBulkEntry {H : Type} : Lit × DataW H → Nat
  | (.string bytes, d) => bytes.length + uptoBulk d + 1
  | (_, d) => uptoBulk d + 1
 end
def uptoSmall : (H : Type) → List (DataW H) → Bool := fun _ ds => decide (uptoBulkAll ds ≤ 1048576)
def OpenSpec.upto (s : _root_.Go.ChangeSpec) : _root_.Go.OpenSpec := { _root_.Go.OpenSpec.ofChange s with cond := some uptoSmall }

/-- 'usufructlaw09.FrameSums', WHERE WHAT IT READS IS OF BULK AT MOST 1048576: true; the input reads as it did. -/
def frameSumsUptoRow : OpenClaim := { program := "ytaflbcckoiiddaadoor", sum := "85d82d8d164e9fbae206cb0048f9d98cf813b4f66e32bd9329188ef8f5da4cc5", func := "usufruct/usufructlaw09.FrameSums", spec := "frameSums", named := ["usufruct/frame.nibbles"], apart := false, laid := [("usufruct/frame.nibbles", laid_usufruct_frame_nibbles)], narrowed := true }
def FrameSumsUptoSaid : Prop := frameSumsUptoRow.holds Tryd.pinned (OpenSpec.upto frameSumsSpec)

/-- 'usufructlaw09.FrameJoined', WHERE WHAT IT READS IS OF BULK AT MOST 1048576: true; the input reads as it did. -/
def frameJoinedUptoRow : OpenClaim := { program := "ytaflbcckoiiddaadoor", sum := "85d82d8d164e9fbae206cb0048f9d98cf813b4f66e32bd9329188ef8f5da4cc5", func := "usufruct/usufructlaw09.FrameJoined", spec := "frameJoined", named := ["usufruct/frame.nibbles"], apart := false, laid := [("usufruct/frame.nibbles", laid_usufruct_frame_nibbles)], narrowed := true }
def FrameJoinedUptoSaid : Prop := frameJoinedUptoRow.holds Tryd.pinned (OpenSpec.upto frameJoinedSpec)

/-- 'usufructlaw09.FrameBack', WHERE WHAT IT READS IS OF BULK AT MOST 1048576: true; the input reads as it did. -/
def frameBackUptoRow : OpenClaim := { program := "ytaflbcckoiiddaadoor", sum := "85d82d8d164e9fbae206cb0048f9d98cf813b4f66e32bd9329188ef8f5da4cc5", func := "usufruct/usufructlaw09.FrameBack", spec := "frameBack", named := ["usufruct/frame.nibbles"], apart := false, laid := [("usufruct/frame.nibbles", laid_usufruct_frame_nibbles)], narrowed := true }
def FrameBackUptoSaid : Prop := frameBackUptoRow.holds Tryd.pinned (OpenSpec.upto frameBackSpec)

/-- 'usufructlaw09.FrameTurned', WHERE WHAT IT READS IS OF BULK AT MOST 1048576: true; the input reads as it did. -/
def frameTurnedUptoRow : OpenClaim := { program := "ytaflbcckoiiddaadoor", sum := "85d82d8d164e9fbae206cb0048f9d98cf813b4f66e32bd9329188ef8f5da4cc5", func := "usufruct/usufructlaw09.FrameTurned", spec := "frameTurned", named := ["usufruct/frame.nibbles"], apart := false, laid := [("usufruct/frame.nibbles", laid_usufruct_frame_nibbles)], narrowed := true }
def FrameTurnedUptoSaid : Prop := frameTurnedUptoRow.holds Tryd.pinned (OpenSpec.upto frameTurnedSpec)

/-- 'usufructlaw09.FrameTakes', WHERE WHAT IT READS IS OF BULK AT MOST 1048576: true; the input reads as it did. -/
def frameTakesUptoRow : OpenClaim := { program := "ytaflbcckoiiddaadoor", sum := "85d82d8d164e9fbae206cb0048f9d98cf813b4f66e32bd9329188ef8f5da4cc5", func := "usufruct/usufructlaw09.FrameTakes", spec := "frameTakes", named := ["usufruct/frame.nibbles"], apart := false, laid := [("usufruct/frame.nibbles", laid_usufruct_frame_nibbles)], narrowed := true }
def FrameTakesUptoSaid : Prop := frameTakesUptoRow.holds Tryd.pinned (OpenSpec.upto frameTakesSpec)

/-- 'usufructlaw09.FrameScans', WHERE WHAT IT READS IS OF BULK AT MOST 1048576: true; the input reads as it did. -/
def frameScansUptoRow : OpenClaim := { program := "ytaflbcckoiiddaadoor", sum := "85d82d8d164e9fbae206cb0048f9d98cf813b4f66e32bd9329188ef8f5da4cc5", func := "usufruct/usufructlaw09.FrameScans", spec := "frameScans", named := ["usufruct/frame.nibbles"], apart := false, laid := [("usufruct/frame.nibbles", laid_usufruct_frame_nibbles)], narrowed := true }
def FrameScansUptoSaid : Prop := frameScansUptoRow.holds Tryd.pinned (OpenSpec.upto frameScansSpec)

/-- 'usufructlaw09.FrameCuts', WHERE WHAT IT READS IS OF BULK AT MOST 1048576: true; the input reads as it did. -/
def frameCutsUptoRow : OpenClaim := { program := "ytaflbcckoiiddaadoor", sum := "85d82d8d164e9fbae206cb0048f9d98cf813b4f66e32bd9329188ef8f5da4cc5", func := "usufruct/usufructlaw09.FrameCuts", spec := "frameCuts", named := ["usufruct/frame.nibbles"], apart := false, laid := [("usufruct/frame.nibbles", laid_usufruct_frame_nibbles)], narrowed := true }
def FrameCutsUptoSaid : Prop := frameCutsUptoRow.holds Tryd.pinned (OpenSpec.upto frameCutsSpec)

end Rows
end Go.Proofs.YtaflbcckoiiddaaDoor
