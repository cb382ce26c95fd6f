/-
  NARROWER THAN 'FOR EVERY INPUT', by the rows' own cells (each row's printed sentence says how): PlaceMoments: loops · PlaceFresh: loops · PlaceAll: loops.
  DERIVED. THE GIVEN ROWS OF THIS SEAT. 5 by the template 'for every input the law returns true; each argument reads behind the call as it read before'; 0 by the template 'total and deterministic' (their statements: YtgnifglolbfamaaTotals.lean).
  GIVEN WITH THE SEED: the statements are not yours to turn. If you find one false, say at which input.
  Laid BY PROGRAM, IN A SANDBOX (cutbox-rows.mjs): the forced cells as the released guide's own fill.sh prints them over the translation d68792bbb39753de… (all of the seat's roots in one cut). By AI agents, Wed Nov 11 2026. No macro, syntax, notation, axiom, sorry.
-/
import Derived.Test.YtgnifglolbfamaaChecked
import GoSem.Claim
import GoSem.ClaimJoined
import GoSem.ClaimMapViews
import Derived.JoinedTies
import Derived.KernelRfl
namespace Go.Proofs.Ytgnifglolbfamaa
/- THE CELL 'sum', in the pinned program and in every row, IS THE sha256 OF THE DUMP (.gsa) THAT YtgnifglolbfamaaProg.lean LOADS. Nothing in Lean hashes anything: it is a label: what it is worth is what the hold of that sum in a sandbox is worth. -/
noncomputable def Try.pinned : Pinned := { name := "ytgnifglolbfamaa", sum := "d68792bbb39753de1f250a26f349d263be9ea00f5b69710a4c89c5352187328c", checked := Try.checked }
namespace Rows
def none {H : Type} : Left H := { results := [], args := [] }

/-- 'refrainlaw10.PlaceMoments': WHATEVER THE INPUT: true; the input reads as it did. -/
def placeMomentsSpec : ChangeSpec := { name := "placeMoments", fn := fun _ => fun
  | [d1, d2] => { results := [.lit (.bool true)], args := [d1, d2] }
  | _ => none }
def placeMomentsRow : OpenClaim := { program := "ytgnifglolbfamaa", sum := "d68792bbb39753de1f250a26f349d263be9ea00f5b69710a4c89c5352187328c", func := "refrain/refrainlaw10.PlaceMoments", spec := "placeMoments", unfollowed := true, recurses := true, loops := true, apart := false }
def PlaceMomentsSaid : Prop := placeMomentsRow.holds Try.pinned (OpenSpec.ofChange placeMomentsSpec)

/-- ITS FALSE NEIGHBOUR: 'it returns false'. Refute it at one input. -/
def placeMomentsWrong : ChangeSpec := { name := "placeMoments", fn := fun _ => fun
  | [d1, d2] => { results := [.lit (.bool false)], args := [d1, d2] }
  | _ => none }
def PlaceMomentsWrongFalsely : Prop := placeMomentsRow.holds Try.pinned (OpenSpec.ofChange placeMomentsWrong)

/-- 'refrainlaw10.PlaceFresh': WHATEVER THE INPUT: true; the input reads as it did. -/
def placeFreshSpec : ChangeSpec := { name := "placeFresh", fn := fun _ => fun
  | [d] => { results := [.lit (.bool true)], args := [d] }
  | _ => none }
def placeFreshRow : OpenClaim := { program := "ytgnifglolbfamaa", sum := "d68792bbb39753de1f250a26f349d263be9ea00f5b69710a4c89c5352187328c", func := "refrain/refrainlaw10.PlaceFresh", spec := "placeFresh", unfollowed := true, recurses := true, loops := true, apart := false }
def PlaceFreshSaid : Prop := placeFreshRow.holds Try.pinned (OpenSpec.ofChange placeFreshSpec)

/-- ITS FALSE NEIGHBOUR: 'it returns false'. Refute it at one input. -/
def placeFreshWrong : ChangeSpec := { name := "placeFresh", fn := fun _ => fun
  | [d] => { results := [.lit (.bool false)], args := [d] }
  | _ => none }
def PlaceFreshWrongFalsely : Prop := placeFreshRow.holds Try.pinned (OpenSpec.ofChange placeFreshWrong)

/-- 'refrainlaw10.PlaceAll': WHATEVER THE INPUT: true; the input reads as it did. -/
def placeAllSpec : ChangeSpec := { name := "placeAll", fn := fun _ => fun
  | [d] => { results := [.lit (.bool true)], args := [d] }
  | _ => none }
def placeAllRow : OpenClaim := { program := "ytgnifglolbfamaa", sum := "d68792bbb39753de1f250a26f349d263be9ea00f5b69710a4c89c5352187328c", func := "refrain/refrainlaw10.PlaceAll", spec := "placeAll", unfollowed := true, recurses := true, loops := true, apart := false }
def PlaceAllSaid : Prop := placeAllRow.holds Try.pinned (OpenSpec.ofChange placeAllSpec)

/-- ITS FALSE NEIGHBOUR: 'it returns false'. Refute it at one input. -/
def placeAllWrong : ChangeSpec := { name := "placeAll", fn := fun _ => fun
  | [d] => { results := [.lit (.bool false)], args := [d] }
  | _ => none }
def PlaceAllWrongFalsely : Prop := placeAllRow.holds Try.pinned (OpenSpec.ofChange placeAllWrong)

/-- 'refrainlaw25.ShellWords': WHATEVER THE INPUT: true; the input reads as it did. -/
def shellWordsSpec : ChangeSpec := { name := "shellWords", fn := fun _ => fun
  | [d] => { results := [.lit (.bool true)], args := [d] }
  | _ => none }
def shellWordsRow : OpenClaim := { program := "ytgnifglolbfamaa", sum := "d68792bbb39753de1f250a26f349d263be9ea00f5b69710a4c89c5352187328c", func := "refrain/refrainlaw25.ShellWords", spec := "shellWords", inPlace := ["internal/bytealg.IndexByteString", "internal/bytealg.IndexString", "internal/abi.NoEscape"], named := ["internal/bytealg.MaxLen"], apart := false }
def ShellWordsSaid : Prop := shellWordsRow.holds Try.pinned (OpenSpec.ofChange shellWordsSpec)

/-- ITS FALSE NEIGHBOUR: 'it returns false'. Refute it at one input. -/
def shellWordsWrong : ChangeSpec := { name := "shellWords", fn := fun _ => fun
  | [d] => { results := [.lit (.bool false)], args := [d] }
  | _ => none }
def ShellWordsWrongFalsely : Prop := shellWordsRow.holds Try.pinned (OpenSpec.ofChange shellWordsWrong)

/-- 'refrainlaw25.ShellBack': WHATEVER THE INPUT: true; the input reads as it did. -/
def shellBackSpec : ChangeSpec := { name := "shellBack", fn := fun _ => fun
  | [d] => { results := [.lit (.bool true)], args := [d] }
  | _ => none }
def shellBackRow : OpenClaim := { program := "ytgnifglolbfamaa", sum := "d68792bbb39753de1f250a26f349d263be9ea00f5b69710a4c89c5352187328c", func := "refrain/refrainlaw25.ShellBack", spec := "shellBack", inPlace := ["internal/bytealg.IndexByteString", "internal/bytealg.IndexString", "internal/abi.NoEscape"], named := ["internal/bytealg.MaxLen"], apart := false }
def ShellBackSaid : Prop := shellBackRow.holds Try.pinned (OpenSpec.ofChange shellBackSpec)

/-- ITS FALSE NEIGHBOUR: 'it returns false'. Refute it at one input. -/
def shellBackWrong : ChangeSpec := { name := "shellBack", fn := fun _ => fun
  | [d] => { results := [.lit (.bool false)], args := [d] }
  | _ => none }
def ShellBackWrongFalsely : Prop := shellBackRow.holds Try.pinned (OpenSpec.ofChange shellBackWrong)

/- THE SECOND FORM. 'bulk': how many values and letters a reading holds, each counted each time it is reached (what is shared counts as often as it is met; a slice's spare places count too). A statement '..UptoSaid' is the law's where the arguments, and the package variables that the reading takes, are together of bulk at most 1048576: NARROWER than '..Said'. Prove '..Said' where nothing that the law and all that it calls make is longer than what came in: it says more and counts as full. Else prove '..UptoSaid'. A law counts once. -/
mutual
def uptoBulk {H : Type} : DataW H → Nat
  | .lit (.string bytes) => bytes.length + 1
  | .lit _ => 1
  | .nil => 1
  | .ptr d => uptoBulk d + 1
  | .slice elems spare => uptoBulkAll elems + uptoBulkAll spare + 1
  | .agg parts => uptoBulkAll parts + 1
  | .iface _ d => uptoBulk d + 1
  | .map entries => uptoBulkEntries entries + 1
  | .held _ => 1
def uptoBulkAll {H : Type} : List (DataW H) → Nat
  | [] => 0
  | d :: r => uptoBulk d + uptoBulkAll r
def uptoBulkEntries {H : Type} : List (Lit × DataW H) → Nat
  | [] => 0
  | x :: r => uptoBulkEntry x + uptoBulkEntries r
def uptoBulkEntry {H : Type} : Lit × DataW H → Nat
  | (.string bytes, d) => bytes.length + uptoBulk d + 1
  | (_, d) => uptoBulk d + 1
 end
def uptoSmall : (H : Type) → List (DataW H) → Bool := fun _ ds => decide (uptoBulkAll ds ≤ 1048576)
def OpenSpec.upto (s : _root_.Go.ChangeSpec) : _root_.Go.OpenSpec := { _root_.Go.OpenSpec.ofChange s with cond := some uptoSmall }

/-- 'refrainlaw10.PlaceMoments', WHERE WHAT IT READS IS OF BULK AT MOST 1048576: true; the input reads as it did. -/
def placeMomentsUptoRow : OpenClaim := { program := "ytgnifglolbfamaa", sum := "d68792bbb39753de1f250a26f349d263be9ea00f5b69710a4c89c5352187328c", func := "refrain/refrainlaw10.PlaceMoments", spec := "placeMoments", unfollowed := true, recurses := true, loops := true, apart := false, narrowed := true }
def PlaceMomentsUptoSaid : Prop := placeMomentsUptoRow.holds Try.pinned (OpenSpec.upto placeMomentsSpec)

/-- 'refrainlaw10.PlaceFresh', WHERE WHAT IT READS IS OF BULK AT MOST 1048576: true; the input reads as it did. -/
def placeFreshUptoRow : OpenClaim := { program := "ytgnifglolbfamaa", sum := "d68792bbb39753de1f250a26f349d263be9ea00f5b69710a4c89c5352187328c", func := "refrain/refrainlaw10.PlaceFresh", spec := "placeFresh", unfollowed := true, recurses := true, loops := true, apart := false, narrowed := true }
def PlaceFreshUptoSaid : Prop := placeFreshUptoRow.holds Try.pinned (OpenSpec.upto placeFreshSpec)

/-- 'refrainlaw10.PlaceAll', WHERE WHAT IT READS IS OF BULK AT MOST 1048576: true; the input reads as it did. -/
def placeAllUptoRow : OpenClaim := { program := "ytgnifglolbfamaa", sum := "d68792bbb39753de1f250a26f349d263be9ea00f5b69710a4c89c5352187328c", func := "refrain/refrainlaw10.PlaceAll", spec := "placeAll", unfollowed := true, recurses := true, loops := true, apart := false, narrowed := true }
def PlaceAllUptoSaid : Prop := placeAllUptoRow.holds Try.pinned (OpenSpec.upto placeAllSpec)

/-- 'refrainlaw25.ShellWords', WHERE WHAT IT READS IS OF BULK AT MOST 1048576: true; the input reads as it did. -/
def shellWordsUptoRow : OpenClaim := { program := "ytgnifglolbfamaa", sum := "d68792bbb39753de1f250a26f349d263be9ea00f5b69710a4c89c5352187328c", func := "refrain/refrainlaw25.ShellWords", spec := "shellWords", inPlace := ["internal/bytealg.IndexByteString", "internal/bytealg.IndexString", "internal/abi.NoEscape"], named := ["internal/bytealg.MaxLen"], apart := false, narrowed := true }
def ShellWordsUptoSaid : Prop := shellWordsUptoRow.holds Try.pinned (OpenSpec.upto shellWordsSpec)

/-- 'refrainlaw25.ShellBack', WHERE WHAT IT READS IS OF BULK AT MOST 1048576: true; the input reads as it did. -/
def shellBackUptoRow : OpenClaim := { program := "ytgnifglolbfamaa", sum := "d68792bbb39753de1f250a26f349d263be9ea00f5b69710a4c89c5352187328c", func := "refrain/refrainlaw25.ShellBack", spec := "shellBack", inPlace := ["internal/bytealg.IndexByteString", "internal/bytealg.IndexString", "internal/abi.NoEscape"], named := ["internal/bytealg.MaxLen"], apart := false, narrowed := true }
def ShellBackUptoSaid : Prop := shellBackUptoRow.holds Try.pinned (OpenSpec.upto shellBackSpec)

end Rows
end Go.Proofs.Ytgnifglolbfamaa
