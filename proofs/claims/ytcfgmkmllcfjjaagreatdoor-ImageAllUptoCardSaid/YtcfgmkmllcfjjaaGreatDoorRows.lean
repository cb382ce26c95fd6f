/-
  NARROWER THAN 'FOR EVERY INPUT', by the rows' own cells (each row's printed sentence says how): ImageAll: laid · ImageFresh: laid.
  DERIVED. THE GIVEN ROWS OF THIS SEAT. 2 by the template 'for every input the law returns true; each argument reads behind the call as it read before'; 0 by the template 'total and deterministic' (their statements: YtcfgmkmllcfjjaaGreatDoorTotals.lean).
  GIVEN WITH THE SEED: the statements are not yours to turn. If you find one false, say at which input.
  Laid BY PROGRAM, IN A SANDBOX (cutbox-rows.mjs): the forced cells as the released guide's own fill.sh prints them over the translation c485a382bd582f02… (all of the seat's roots in one cut). By AI agents, Wed Nov 11 2026. No macro, syntax, notation, axiom, sorry.
-/
import Derived.Test.YtcfgmkmllcfjjaaGreatDoorChecked
import GoSem.Claim
import GoSem.ClaimJoined
import GoSem.ClaimMapViews
import Derived.JoinedTies
import Derived.KernelRfl
namespace Go.Proofs.YtcfgmkmllcfjjaaGreatDoor
/- THE CELL 'sum', in the pinned program and in every row, IS THE sha256 OF THE DUMP (.gsa) THAT YtcfgmkmllcfjjaaGreatDoorProg.lean LOADS. Nothing in Lean hashes anything: it is a label: what it is worth is what the hold of that sum in a sandbox is worth. -/
noncomputable def Tryz.pinned : Pinned := { name := "ytcfgmkmllcfjjaagreatdoor", sum := "c485a382bd582f022b84508c3896ad5962a7b552c8b8bcdc86a6c02c723caad5", checked := Tryz.checked }
namespace Rows
def none {H : Type} : Left H := { results := [], args := [] }

/- WHAT THE LISTED PACKAGE-LEVEL VARIABLES READ AS WHEN THE CALL BEGINS. Each datum BY PROGRAM (the guide's laid-datum.mjs) off the statement by which the dump's own 'gosem.cut.vars' lays the variable. In a bare row this is a premise. The card (YtcfgmkmllcfjjaaGreatDoorCards.lean) ties it to the program's text. -/
def laid_refrain_schema_words {H : Type} : DataW H := .agg [.lit (.string [80, 65, 84, 84, 69, 82, 78]), .lit (.string [83, 69, 81]), .lit (.string [80, 65, 82, 84, 73, 84, 73, 79, 78]), .lit (.string [66, 89]), .lit (.string [87, 72, 69, 82, 69]), .lit (.string [87, 73, 84, 72, 73, 78]), .lit (.string [82, 69, 84, 85, 82, 78]), .lit (.string [65, 78, 68]), .lit (.string [79, 82]), .lit (.string [78, 79, 84]), .lit (.string [84, 82, 85, 69]), .lit (.string [70, 65, 76, 83, 69]), .lit (.string [84, 89, 80, 69]), .lit (.string [73, 78, 84]), .lit (.string [83, 84, 82]), .lit (.string [66, 79, 79, 76])]

/-- 'refrainlaw22.ImageAll': WHATEVER THE INPUT: true; the input reads as it did. -/
def imageAllSpec : ChangeSpec := { name := "imageAll", fn := fun _ => fun
  | [d1, d2] => { results := [.lit (.bool true)], args := [d1, d2] }
  | _ => none }
def imageAllRow : OpenClaim := { program := "ytcfgmkmllcfjjaagreatdoor", sum := "c485a382bd582f022b84508c3896ad5962a7b552c8b8bcdc86a6c02c723caad5", func := "refrain/refrainlaw22.ImageAll", spec := "imageAll", unfollowed := true, recurses := true, named := ["refrain/schema.words"], apart := false, laid := [("refrain/schema.words", laid_refrain_schema_words)] }
def ImageAllSaid : Prop := imageAllRow.holds Tryz.pinned (OpenSpec.ofChange imageAllSpec)

/-- ITS FALSE NEIGHBOUR: 'it returns false'. Refute it at one input. -/
def imageAllWrong : ChangeSpec := { name := "imageAll", fn := fun _ => fun
  | [d1, d2] => { results := [.lit (.bool false)], args := [d1, d2] }
  | _ => none }
def ImageAllWrongFalsely : Prop := imageAllRow.holds Tryz.pinned (OpenSpec.ofChange imageAllWrong)

/-- 'refrainlaw22.ImageFresh': WHATEVER THE INPUT: true; the input reads as it did. -/
def imageFreshSpec : ChangeSpec := { name := "imageFresh", fn := fun _ => fun
  | [d1, d2] => { results := [.lit (.bool true)], args := [d1, d2] }
  | _ => none }
def imageFreshRow : OpenClaim := { program := "ytcfgmkmllcfjjaagreatdoor", sum := "c485a382bd582f022b84508c3896ad5962a7b552c8b8bcdc86a6c02c723caad5", func := "refrain/refrainlaw22.ImageFresh", spec := "imageFresh", unfollowed := true, recurses := true, named := ["refrain/schema.words"], apart := false, laid := [("refrain/schema.words", laid_refrain_schema_words)] }
def ImageFreshSaid : Prop := imageFreshRow.holds Tryz.pinned (OpenSpec.ofChange imageFreshSpec)

/-- ITS FALSE NEIGHBOUR: 'it returns false'. Refute it at one input. -/
def imageFreshWrong : ChangeSpec := { name := "imageFresh", fn := fun _ => fun
  | [d1, d2] => { results := [.lit (.bool false)], args := [d1, d2] }
  | _ => none }
def ImageFreshWrongFalsely : Prop := imageFreshRow.holds Tryz.pinned (OpenSpec.ofChange imageFreshWrong)

/- THE SECOND FORM. 'bulk': how many values and letters a reading holds, each counted each time it is reached (what is shared counts as often as it is met; a slice's spare places count too). A statement '..UptoSaid' is the law's where the arguments, and the package variables that the reading takes, are together of bulk at most 1048576: NARROWER than '..Said'. Prove '..Said' where nothing that the law and all that it calls make is longer than what came in: it says more and counts as full. Else prove '..UptoSaid'. A law counts once. -/
mutual
def uptoBulk {H : Type} : DataW H → Nat
  | .lit (.string bytes) => bytes.length + 1
  | .lit _ => 1
  | .nil => 1
  | .ptr d => uptoBulk d + 1
  | .slice elems spare => uptoBulkAll elems + uptoBulkAll spare + 1
  | .agg parts => uptoBulkAll parts + 1
  | .iface _ d => uptoBulk d + 1
  | .map entries => uptoBulkEntries entries + 1
  | .held _ => 1
def uptoBulkAll {H : Type} : List (DataW H) → Nat
  | [] => 0
  | d :: r => uptoBulk d + uptoBulkAll r
def uptoBulkEntries {H : Type} : List (Lit × DataW H) → Nat
  | [] => 0
  | x :: r => uptoBulkEntry x + uptoBulkEntries r
def uptoBulkEntry {H : Type} : Lit × DataW H → Nat
  | (.string bytes, d) => bytes.length + uptoBulk d + 1
  | (_, d) => uptoBulk d + 1
 end
def uptoSmall : (H : Type) → List (DataW H) → Bool := fun _ ds => decide (uptoBulkAll ds ≤ 1048576)
def OpenSpec.upto (s : _root_.Go.ChangeSpec) : _root_.Go.OpenSpec := { _root_.Go.OpenSpec.ofChange s with cond := some uptoSmall }

/-- 'refrainlaw22.ImageAll', WHERE WHAT IT READS IS OF BULK AT MOST 1048576: true; the input reads as it did. -/
def imageAllUptoRow : OpenClaim := { program := "ytcfgmkmllcfjjaagreatdoor", sum := "c485a382bd582f022b84508c3896ad5962a7b552c8b8bcdc86a6c02c723caad5", func := "refrain/refrainlaw22.ImageAll", spec := "imageAll", unfollowed := true, recurses := true, named := ["refrain/schema.words"], apart := false, laid := [("refrain/schema.words", laid_refrain_schema_words)], narrowed := true }
def ImageAllUptoSaid : Prop := imageAllUptoRow.holds Tryz.pinned (OpenSpec.upto imageAllSpec)

/-- 'refrainlaw22.ImageFresh', WHERE WHAT IT READS IS OF BULK AT MOST 1048576: true; the input reads as it did. -/
def imageFreshUptoRow : OpenClaim := { program := "ytcfgmkmllcfjjaagreatdoor", sum := "c485a382bd582f022b84508c3896ad5962a7b552c8b8bcdc86a6c02c723caad5", func := "refrain/refrainlaw22.ImageFresh", spec := "imageFresh", unfollowed := true, recurses := true, named := ["refrain/schema.words"], apart := false, laid := [("refrain/schema.words", laid_refrain_schema_words)], narrowed := true }
def ImageFreshUptoSaid : Prop := imageFreshUptoRow.holds Tryz.pinned (OpenSpec.upto imageFreshSpec)

end Rows
end Go.Proofs.YtcfgmkmllcfjjaaGreatDoor
