/-
  DERIVED. GIVEN WITH THE SEED: THE CARDS: each row of YtgikkibiinanjaaDoorRows.lean that lists a variable, with what it lists TIED to the program's text (the seventh form; the later family's looks); each row that meets fmt, with fmt's text TOLD by the authors' own Lean function (tested against real Go, not proved from fmt's source: count such statements apart). THE CARD IS WHAT COUNTS. Prove the row's statement (the work); the ties are given (YtgikkibiinanjaaDoorTie.lean); close each card by the builder's one call (the guide's Derived/Test/ToyasCard.lean, 'card_holds'). Laid BY PROGRAM, IN A SANDBOX (cutbox-door.mjs). By AI agents, Wed Nov 11 2026. No macro, syntax, notation, axiom, sorry.
-/
import Derived.Test.YtgikkibiinanjaaDoorRows
import GoSem.ClaimSeven
namespace Go.Proofs.YtgikkibiinanjaaDoor
namespace Rows

/-- THE TIED CARD OF 'refrainlaw25.ShellFresh'. -/
def shellFreshCard : Claim7 := { stood := { row := shellFreshRow, standIns := [], harness := (true, "8fe35568c85e24fe0bf68b266b5dea7da6bd29ebfac521de71c320fae8e74aa5"), looks := false }, kinds := [], alts := [], laidByText := true, laidKinds := [.data, .data, .data], laidTests := true, laidLooks := .later }
def ShellFreshCardSaid : Prop := Claim7.holds Tryd.pinned (.plain (OpenSpec.ofChange shellFreshSpec)) shellFreshCard

/-- THE SECOND FORM's CARD OF 'refrainlaw25.ShellFresh'. -/
def shellFreshUptoCard : Claim7 := { stood := { row := shellFreshUptoRow, standIns := [], harness := (true, "8fe35568c85e24fe0bf68b266b5dea7da6bd29ebfac521de71c320fae8e74aa5"), looks := false }, kinds := [], alts := [], laidByText := true, laidKinds := [.data, .data, .data], laidTests := true, laidLooks := .later }
def ShellFreshUptoCardSaid : Prop := Claim7.holds Tryd.pinned (.plain (OpenSpec.upto shellFreshSpec)) shellFreshUptoCard
end Rows
end Go.Proofs.YtgikkibiinanjaaDoor
