/-
  No cell of these rows narrows 'for every input' (looked for: loops, veiled, ifaces, maps, wideKeys, modest, calm, conditions, laid).
  DERIVED. THE GIVEN ROWS OF THIS SEAT. 12 by the template 'for every input the law returns true; each argument reads behind the call as it read before'; 0 by the template 'total and deterministic' (their statements: YtlpfdokaionkjaaTotals.lean).
  GIVEN WITH THE SEED: the statements are not yours to turn. If you find one false, say at which input.
  Laid BY PROGRAM, IN A SANDBOX (cutbox-rows.mjs): the forced cells as the released guide's own fill.sh prints them over the translation 8b408530f301fffc… (all of the seat's roots in one cut). By AI agents, Wed Nov 11 2026. No macro, syntax, notation, axiom, sorry.
-/
import Derived.Test.YtlpfdokaionkjaaChecked
import GoSem.Claim
import GoSem.ClaimJoined
import GoSem.ClaimMapViews
import Derived.JoinedTies
import Derived.KernelRfl
namespace Go.Proofs.Ytlpfdokaionkjaa
/- THE CELL 'sum', in the pinned program and in every row, IS THE sha256 OF THE DUMP (.gsa) THAT YtlpfdokaionkjaaProg.lean LOADS. Nothing in Lean hashes anything: it is a label: what it is worth is what the hold of that sum in a sandbox is worth. -/
noncomputable def Try.pinned : Pinned := { name := "ytlpfdokaionkjaa", sum := "8b408530f301fffc268acd36369ef789d7f71aa0be5d9153e6c287deec73f6d8", checked := Try.checked }
namespace Rows
def none {H : Type} : Left H := { results := [], args := [] }

/-- 'usufructlaw02.VecLaws': WHATEVER THE INPUT: true; the input reads as it did. -/
def vecLawsSpec : ChangeSpec := { name := "vecLaws", fn := fun _ => fun
  | [d1, d2, d3] => { results := [.lit (.bool true)], args := [d1, d2, d3] }
  | _ => none }
def vecLawsRow : OpenClaim := { program := "ytlpfdokaionkjaa", sum := "8b408530f301fffc268acd36369ef789d7f71aa0be5d9153e6c287deec73f6d8", func := "usufruct/usufructlaw02.VecLaws", spec := "vecLaws", apart := false }
def VecLawsSaid : Prop := vecLawsRow.holds Try.pinned (OpenSpec.ofChange vecLawsSpec)

/-- ITS FALSE NEIGHBOUR: 'it returns false'. Refute it at one input. -/
def vecLawsWrong : ChangeSpec := { name := "vecLaws", fn := fun _ => fun
  | [d1, d2, d3] => { results := [.lit (.bool false)], args := [d1, d2, d3] }
  | _ => none }
def VecLawsWrongFalsely : Prop := vecLawsRow.holds Try.pinned (OpenSpec.ofChange vecLawsWrong)

/-- 'usufructlaw02.VecLine': WHATEVER THE INPUT: true; the input reads as it did. -/
def vecLineSpec : ChangeSpec := { name := "vecLine", fn := fun _ => fun
  | [d1, d2, d3] => { results := [.lit (.bool true)], args := [d1, d2, d3] }
  | _ => none }
def vecLineRow : OpenClaim := { program := "ytlpfdokaionkjaa", sum := "8b408530f301fffc268acd36369ef789d7f71aa0be5d9153e6c287deec73f6d8", func := "usufruct/usufructlaw02.VecLine", spec := "vecLine", apart := false }
def VecLineSaid : Prop := vecLineRow.holds Try.pinned (OpenSpec.ofChange vecLineSpec)

/-- ITS FALSE NEIGHBOUR: 'it returns false'. Refute it at one input. -/
def vecLineWrong : ChangeSpec := { name := "vecLine", fn := fun _ => fun
  | [d1, d2, d3] => { results := [.lit (.bool false)], args := [d1, d2, d3] }
  | _ => none }
def VecLineWrongFalsely : Prop := vecLineRow.holds Try.pinned (OpenSpec.ofChange vecLineWrong)

/-- 'usufructlaw02.VecGrows': WHATEVER THE INPUT: true; the input reads as it did. -/
def vecGrowsSpec : ChangeSpec := { name := "vecGrows", fn := fun _ => fun
  | [d1, d2, d3, d4] => { results := [.lit (.bool true)], args := [d1, d2, d3, d4] }
  | _ => none }
def vecGrowsRow : OpenClaim := { program := "ytlpfdokaionkjaa", sum := "8b408530f301fffc268acd36369ef789d7f71aa0be5d9153e6c287deec73f6d8", func := "usufruct/usufructlaw02.VecGrows", spec := "vecGrows", apart := false }
def VecGrowsSaid : Prop := vecGrowsRow.holds Try.pinned (OpenSpec.ofChange vecGrowsSpec)

/-- ITS FALSE NEIGHBOUR: 'it returns false'. Refute it at one input. -/
def vecGrowsWrong : ChangeSpec := { name := "vecGrows", fn := fun _ => fun
  | [d1, d2, d3, d4] => { results := [.lit (.bool false)], args := [d1, d2, d3, d4] }
  | _ => none }
def VecGrowsWrongFalsely : Prop := vecGrowsRow.holds Try.pinned (OpenSpec.ofChange vecGrowsWrong)

/-- 'usufructlaw02.VecJoins': WHATEVER THE INPUT: true; the input reads as it did. -/
def vecJoinsSpec : ChangeSpec := { name := "vecJoins", fn := fun _ => fun
  | [d1, d2] => { results := [.lit (.bool true)], args := [d1, d2] }
  | _ => none }
def vecJoinsRow : OpenClaim := { program := "ytlpfdokaionkjaa", sum := "8b408530f301fffc268acd36369ef789d7f71aa0be5d9153e6c287deec73f6d8", func := "usufruct/usufructlaw02.VecJoins", spec := "vecJoins", apart := false }
def VecJoinsSaid : Prop := vecJoinsRow.holds Try.pinned (OpenSpec.ofChange vecJoinsSpec)

/-- ITS FALSE NEIGHBOUR: 'it returns false'. Refute it at one input. -/
def vecJoinsWrong : ChangeSpec := { name := "vecJoins", fn := fun _ => fun
  | [d1, d2] => { results := [.lit (.bool false)], args := [d1, d2] }
  | _ => none }
def VecJoinsWrongFalsely : Prop := vecJoinsRow.holds Try.pinned (OpenSpec.ofChange vecJoinsWrong)

/-- 'usufructlaw01.NumSums': WHATEVER THE INPUT: true; the input reads as it did. -/
def numSumsSpec : ChangeSpec := { name := "numSums", fn := fun _ => fun
  | [d] => { results := [.lit (.bool true)], args := [d] }
  | _ => none }
def numSumsRow : OpenClaim := { program := "ytlpfdokaionkjaa", sum := "8b408530f301fffc268acd36369ef789d7f71aa0be5d9153e6c287deec73f6d8", func := "usufruct/usufructlaw01.NumSums", spec := "numSums", unfollowed := true, recurses := true, apart := false }
def NumSumsSaid : Prop := numSumsRow.holds Try.pinned (OpenSpec.ofChange numSumsSpec)

/-- ITS FALSE NEIGHBOUR: 'it returns false'. Refute it at one input. -/
def numSumsWrong : ChangeSpec := { name := "numSums", fn := fun _ => fun
  | [d] => { results := [.lit (.bool false)], args := [d] }
  | _ => none }
def NumSumsWrongFalsely : Prop := numSumsRow.holds Try.pinned (OpenSpec.ofChange numSumsWrong)

/-- 'usufructlaw01.NumTries': WHATEVER THE INPUT: true; the input reads as it did. -/
def numTriesSpec : ChangeSpec := { name := "numTries", fn := fun _ => fun
  | [d1, d2, d3] => { results := [.lit (.bool true)], args := [d1, d2, d3] }
  | _ => none }
def numTriesRow : OpenClaim := { program := "ytlpfdokaionkjaa", sum := "8b408530f301fffc268acd36369ef789d7f71aa0be5d9153e6c287deec73f6d8", func := "usufruct/usufructlaw01.NumTries", spec := "numTries", unfollowed := true, recurses := true, apart := false }
def NumTriesSaid : Prop := numTriesRow.holds Try.pinned (OpenSpec.ofChange numTriesSpec)

/-- ITS FALSE NEIGHBOUR: 'it returns false'. Refute it at one input. -/
def numTriesWrong : ChangeSpec := { name := "numTries", fn := fun _ => fun
  | [d1, d2, d3] => { results := [.lit (.bool false)], args := [d1, d2, d3] }
  | _ => none }
def NumTriesWrongFalsely : Prop := numTriesRow.holds Try.pinned (OpenSpec.ofChange numTriesWrong)

/-- 'usufructlaw01.NumSplits': WHATEVER THE INPUT: true; the input reads as it did. -/
def numSplitsSpec : ChangeSpec := { name := "numSplits", fn := fun _ => fun
  | [d1, d2] => { results := [.lit (.bool true)], args := [d1, d2] }
  | _ => none }
def numSplitsRow : OpenClaim := { program := "ytlpfdokaionkjaa", sum := "8b408530f301fffc268acd36369ef789d7f71aa0be5d9153e6c287deec73f6d8", func := "usufruct/usufructlaw01.NumSplits", spec := "numSplits", unfollowed := true, recurses := true, apart := false }
def NumSplitsSaid : Prop := numSplitsRow.holds Try.pinned (OpenSpec.ofChange numSplitsSpec)

/-- ITS FALSE NEIGHBOUR: 'it returns false'. Refute it at one input. -/
def numSplitsWrong : ChangeSpec := { name := "numSplits", fn := fun _ => fun
  | [d1, d2] => { results := [.lit (.bool false)], args := [d1, d2] }
  | _ => none }
def NumSplitsWrongFalsely : Prop := numSplitsRow.holds Try.pinned (OpenSpec.ofChange numSplitsWrong)

/-- 'usufructlaw01.NumScales': WHATEVER THE INPUT: true; the input reads as it did. -/
def numScalesSpec : ChangeSpec := { name := "numScales", fn := fun _ => fun
  | [d1, d2, d3] => { results := [.lit (.bool true)], args := [d1, d2, d3] }
  | _ => none }
def numScalesRow : OpenClaim := { program := "ytlpfdokaionkjaa", sum := "8b408530f301fffc268acd36369ef789d7f71aa0be5d9153e6c287deec73f6d8", func := "usufruct/usufructlaw01.NumScales", spec := "numScales", unfollowed := true, recurses := true, apart := false }
def NumScalesSaid : Prop := numScalesRow.holds Try.pinned (OpenSpec.ofChange numScalesSpec)

/-- ITS FALSE NEIGHBOUR: 'it returns false'. Refute it at one input. -/
def numScalesWrong : ChangeSpec := { name := "numScales", fn := fun _ => fun
  | [d1, d2, d3] => { results := [.lit (.bool false)], args := [d1, d2, d3] }
  | _ => none }
def NumScalesWrongFalsely : Prop := numScalesRow.holds Try.pinned (OpenSpec.ofChange numScalesWrong)

/-- 'usufructlaw01.NumReckons': WHATEVER THE INPUT: true; the input reads as it did. -/
def numReckonsSpec : ChangeSpec := { name := "numReckons", fn := fun _ => fun
  | [d1, d2] => { results := [.lit (.bool true)], args := [d1, d2] }
  | _ => none }
def numReckonsRow : OpenClaim := { program := "ytlpfdokaionkjaa", sum := "8b408530f301fffc268acd36369ef789d7f71aa0be5d9153e6c287deec73f6d8", func := "usufruct/usufructlaw01.NumReckons", spec := "numReckons", unfollowed := true, recurses := true, apart := false }
def NumReckonsSaid : Prop := numReckonsRow.holds Try.pinned (OpenSpec.ofChange numReckonsSpec)

/-- ITS FALSE NEIGHBOUR: 'it returns false'. Refute it at one input. -/
def numReckonsWrong : ChangeSpec := { name := "numReckons", fn := fun _ => fun
  | [d1, d2] => { results := [.lit (.bool false)], args := [d1, d2] }
  | _ => none }
def NumReckonsWrongFalsely : Prop := numReckonsRow.holds Try.pinned (OpenSpec.ofChange numReckonsWrong)

/-- 'usufructlaw01.NumOrders': WHATEVER THE INPUT: true; the input reads as it did. -/
def numOrdersSpec : ChangeSpec := { name := "numOrders", fn := fun _ => fun
  | [d1, d2] => { results := [.lit (.bool true)], args := [d1, d2] }
  | _ => none }
def numOrdersRow : OpenClaim := { program := "ytlpfdokaionkjaa", sum := "8b408530f301fffc268acd36369ef789d7f71aa0be5d9153e6c287deec73f6d8", func := "usufruct/usufructlaw01.NumOrders", spec := "numOrders", unfollowed := true, recurses := true, apart := false }
def NumOrdersSaid : Prop := numOrdersRow.holds Try.pinned (OpenSpec.ofChange numOrdersSpec)

/-- ITS FALSE NEIGHBOUR: 'it returns false'. Refute it at one input. -/
def numOrdersWrong : ChangeSpec := { name := "numOrders", fn := fun _ => fun
  | [d1, d2] => { results := [.lit (.bool false)], args := [d1, d2] }
  | _ => none }
def NumOrdersWrongFalsely : Prop := numOrdersRow.holds Try.pinned (OpenSpec.ofChange numOrdersWrong)

/-- 'usufructlaw02.VecSums': WHATEVER THE INPUT: true; the input reads as it did. -/
def vecSumsSpec : ChangeSpec := { name := "vecSums", fn := fun _ => fun
  | [d1, d2, d3] => { results := [.lit (.bool true)], args := [d1, d2, d3] }
  | _ => none }
def vecSumsRow : OpenClaim := { program := "ytlpfdokaionkjaa", sum := "8b408530f301fffc268acd36369ef789d7f71aa0be5d9153e6c287deec73f6d8", func := "usufruct/usufructlaw02.VecSums", spec := "vecSums", unfollowed := true, recurses := true, apart := false }
def VecSumsSaid : Prop := vecSumsRow.holds Try.pinned (OpenSpec.ofChange vecSumsSpec)

/-- ITS FALSE NEIGHBOUR: 'it returns false'. Refute it at one input. -/
def vecSumsWrong : ChangeSpec := { name := "vecSums", fn := fun _ => fun
  | [d1, d2, d3] => { results := [.lit (.bool false)], args := [d1, d2, d3] }
  | _ => none }
def VecSumsWrongFalsely : Prop := vecSumsRow.holds Try.pinned (OpenSpec.ofChange vecSumsWrong)

/-- 'usufructlaw02.VecSame': WHATEVER THE INPUT: true; the input reads as it did. -/
def vecSameSpec : ChangeSpec := { name := "vecSame", fn := fun _ => fun
  | [d1, d2, d3, d4] => { results := [.lit (.bool true)], args := [d1, d2, d3, d4] }
  | _ => none }
def vecSameRow : OpenClaim := { program := "ytlpfdokaionkjaa", sum := "8b408530f301fffc268acd36369ef789d7f71aa0be5d9153e6c287deec73f6d8", func := "usufruct/usufructlaw02.VecSame", spec := "vecSame", unfollowed := true, recurses := true, apart := false }
def VecSameSaid : Prop := vecSameRow.holds Try.pinned (OpenSpec.ofChange vecSameSpec)

/-- ITS FALSE NEIGHBOUR: 'it returns false'. Refute it at one input. -/
def vecSameWrong : ChangeSpec := { name := "vecSame", fn := fun _ => fun
  | [d1, d2, d3, d4] => { results := [.lit (.bool false)], args := [d1, d2, d3, d4] }
  | _ => none }
def VecSameWrongFalsely : Prop := vecSameRow.holds Try.pinned (OpenSpec.ofChange vecSameWrong)

/- THE SECOND FORM. 'bulk': how many values and letters a reading holds, each counted each time it is reached (what is shared counts as often as it is met; a slice's spare places count too). A statement '..UptoSaid' is the law's where the arguments, and the package variables that the reading takes, are together of bulk at most 1048576: NARROWER than '..Said'. Prove '..Said' where nothing that the law and all that it calls make is longer than what came in: it says more and counts as full. Else prove '..UptoSaid'. A law counts once. -/
mutual
def uptoBulk {H : Type} : DataW H → Nat
  | .lit (.string bytes) => bytes.length + 1
  | .lit _ => 1
  | .nil => 1
  | .ptr d => uptoBulk d + 1
  | .slice elems spare => uptoBulkAll elems + uptoBulkAll spare + 1
  | .agg parts => uptoBulkAll parts + 1
  | .iface _ d => uptoBulk d + 1
  | .map entries => uptoBulkEntries entries + 1
  | .held _ => 1
def uptoBulkAll {H : Type} : List (DataW H) → Nat
  | [] => 0
  | d :: r => uptoBulk d + uptoBulkAll r
def uptoBulkEntries {H : Type} : List (Lit × DataW H) → Nat
  | [] => 0
  | x :: r => uptoBulkEntry x + uptoBulkEntries r
def uptoBulkEntry {H : Type} : Lit × DataW H → Nat
  | (.string bytes, d) => bytes.length + uptoBulk d + 1
  | (_, d) => uptoBulk d + 1
 end
def uptoSmall : (H : Type) → List (DataW H) → Bool := fun _ ds => decide (uptoBulkAll ds ≤ 1048576)
def OpenSpec.upto (s : _root_.Go.ChangeSpec) : _root_.Go.OpenSpec := { _root_.Go.OpenSpec.ofChange s with cond := some uptoSmall }

/-- 'usufructlaw02.VecLaws', WHERE WHAT IT READS IS OF BULK AT MOST 1048576: true; the input reads as it did. -/
def vecLawsUptoRow : OpenClaim := { program := "ytlpfdokaionkjaa", sum := "8b408530f301fffc268acd36369ef789d7f71aa0be5d9153e6c287deec73f6d8", func := "usufruct/usufructlaw02.VecLaws", spec := "vecLaws", apart := false, narrowed := true }
def VecLawsUptoSaid : Prop := vecLawsUptoRow.holds Try.pinned (OpenSpec.upto vecLawsSpec)

/-- 'usufructlaw02.VecLine', WHERE WHAT IT READS IS OF BULK AT MOST 1048576: true; the input reads as it did. -/
def vecLineUptoRow : OpenClaim := { program := "ytlpfdokaionkjaa", sum := "8b408530f301fffc268acd36369ef789d7f71aa0be5d9153e6c287deec73f6d8", func := "usufruct/usufructlaw02.VecLine", spec := "vecLine", apart := false, narrowed := true }
def VecLineUptoSaid : Prop := vecLineUptoRow.holds Try.pinned (OpenSpec.upto vecLineSpec)

/-- 'usufructlaw02.VecGrows', WHERE WHAT IT READS IS OF BULK AT MOST 1048576: true; the input reads as it did. -/
def vecGrowsUptoRow : OpenClaim := { program := "ytlpfdokaionkjaa", sum := "8b408530f301fffc268acd36369ef789d7f71aa0be5d9153e6c287deec73f6d8", func := "usufruct/usufructlaw02.VecGrows", spec := "vecGrows", apart := false, narrowed := true }
def VecGrowsUptoSaid : Prop := vecGrowsUptoRow.holds Try.pinned (OpenSpec.upto vecGrowsSpec)

/-- 'usufructlaw02.VecJoins', WHERE WHAT IT READS IS OF BULK AT MOST 1048576: true; the input reads as it did. -/
def vecJoinsUptoRow : OpenClaim := { program := "ytlpfdokaionkjaa", sum := "8b408530f301fffc268acd36369ef789d7f71aa0be5d9153e6c287deec73f6d8", func := "usufruct/usufructlaw02.VecJoins", spec := "vecJoins", apart := false, narrowed := true }
def VecJoinsUptoSaid : Prop := vecJoinsUptoRow.holds Try.pinned (OpenSpec.upto vecJoinsSpec)

/-- 'usufructlaw01.NumSums', WHERE WHAT IT READS IS OF BULK AT MOST 1048576: true; the input reads as it did. -/
def numSumsUptoRow : OpenClaim := { program := "ytlpfdokaionkjaa", sum := "8b408530f301fffc268acd36369ef789d7f71aa0be5d9153e6c287deec73f6d8", func := "usufruct/usufructlaw01.NumSums", spec := "numSums", unfollowed := true, recurses := true, apart := false, narrowed := true }
def NumSumsUptoSaid : Prop := numSumsUptoRow.holds Try.pinned (OpenSpec.upto numSumsSpec)

/-- 'usufructlaw01.NumTries', WHERE WHAT IT READS IS OF BULK AT MOST 1048576: true; the input reads as it did. -/
def numTriesUptoRow : OpenClaim := { program := "ytlpfdokaionkjaa", sum := "8b408530f301fffc268acd36369ef789d7f71aa0be5d9153e6c287deec73f6d8", func := "usufruct/usufructlaw01.NumTries", spec := "numTries", unfollowed := true, recurses := true, apart := false, narrowed := true }
def NumTriesUptoSaid : Prop := numTriesUptoRow.holds Try.pinned (OpenSpec.upto numTriesSpec)

/-- 'usufructlaw01.NumSplits', WHERE WHAT IT READS IS OF BULK AT MOST 1048576: true; the input reads as it did. -/
def numSplitsUptoRow : OpenClaim := { program := "ytlpfdokaionkjaa", sum := "8b408530f301fffc268acd36369ef789d7f71aa0be5d9153e6c287deec73f6d8", func := "usufruct/usufructlaw01.NumSplits", spec := "numSplits", unfollowed := true, recurses := true, apart := false, narrowed := true }
def NumSplitsUptoSaid : Prop := numSplitsUptoRow.holds Try.pinned (OpenSpec.upto numSplitsSpec)

/-- 'usufructlaw01.NumScales', WHERE WHAT IT READS IS OF BULK AT MOST 1048576: true; the input reads as it did. -/
def numScalesUptoRow : OpenClaim := { program := "ytlpfdokaionkjaa", sum := "8b408530f301fffc268acd36369ef789d7f71aa0be5d9153e6c287deec73f6d8", func := "usufruct/usufructlaw01.NumScales", spec := "numScales", unfollowed := true, recurses := true, apart := false, narrowed := true }
def NumScalesUptoSaid : Prop := numScalesUptoRow.holds Try.pinned (OpenSpec.upto numScalesSpec)

/-- 'usufructlaw01.NumReckons', WHERE WHAT IT READS IS OF BULK AT MOST 1048576: true; the input reads as it did. -/
def numReckonsUptoRow : OpenClaim := { program := "ytlpfdokaionkjaa", sum := "8b408530f301fffc268acd36369ef789d7f71aa0be5d9153e6c287deec73f6d8", func := "usufruct/usufructlaw01.NumReckons", spec := "numReckons", unfollowed := true, recurses := true, apart := false, narrowed := true }
def NumReckonsUptoSaid : Prop := numReckonsUptoRow.holds Try.pinned (OpenSpec.upto numReckonsSpec)

/-- 'usufructlaw01.NumOrders', WHERE WHAT IT READS IS OF BULK AT MOST 1048576: true; the input reads as it did. -/
def numOrdersUptoRow : OpenClaim := { program := "ytlpfdokaionkjaa", sum := "8b408530f301fffc268acd36369ef789d7f71aa0be5d9153e6c287deec73f6d8", func := "usufruct/usufructlaw01.NumOrders", spec := "numOrders", unfollowed := true, recurses := true, apart := false, narrowed := true }
def NumOrdersUptoSaid : Prop := numOrdersUptoRow.holds Try.pinned (OpenSpec.upto numOrdersSpec)

/-- 'usufructlaw02.VecSums', WHERE WHAT IT READS IS OF BULK AT MOST 1048576: true; the input reads as it did. -/
def vecSumsUptoRow : OpenClaim := { program := "ytlpfdokaionkjaa", sum := "8b408530f301fffc268acd36369ef789d7f71aa0be5d9153e6c287deec73f6d8", func := "usufruct/usufructlaw02.VecSums", spec := "vecSums", unfollowed := true, recurses := true, apart := false, narrowed := true }
def VecSumsUptoSaid : Prop := vecSumsUptoRow.holds Try.pinned (OpenSpec.upto vecSumsSpec)

/-- 'usufructlaw02.VecSame', WHERE WHAT IT READS IS OF BULK AT MOST 1048576: true; the input reads as it did. -/
def vecSameUptoRow : OpenClaim := { program := "ytlpfdokaionkjaa", sum := "8b408530f301fffc268acd36369ef789d7f71aa0be5d9153e6c287deec73f6d8", func := "usufruct/usufructlaw02.VecSame", spec := "vecSame", unfollowed := true, recurses := true, apart := false, narrowed := true }
def VecSameUptoSaid : Prop := vecSameUptoRow.holds Try.pinned (OpenSpec.upto vecSameSpec)

end Rows
end Go.Proofs.Ytlpfdokaionkjaa
