/-
  DERIVED. GIVEN WITH THE SEED: THE CARDS: each row of YtcfgmkmllcfjjaaGreatDoorRows.lean that lists a variable, with what it lists TIED to the program's text (the seventh form; the later family's looks); each row that meets fmt, with fmt's text TOLD by the authors' own Lean function (tested against real Go, not proved from fmt's source: count such statements apart). THE CARD IS WHAT COUNTS. Prove the row's statement (the work); the ties are given (YtcfgmkmllcfjjaaGreatDoorTie.lean); close each card by the builder's one call (the guide's Derived/Test/ToyasCard.lean, 'card_holds'). Laid BY PROGRAM, IN A SANDBOX (cutbox-door.mjs). By AI agents, Wed Nov 11 2026. No macro, syntax, notation, axiom, sorry.
-/
import Derived.Test.YtcfgmkmllcfjjaaGreatDoorRows
import GoSem.ClaimSeven
namespace Go.Proofs.YtcfgmkmllcfjjaaGreatDoor
namespace Rows

/-- THE TIED CARD OF 'refrainlaw22.ImageAll'. -/
def imageAllCard : Claim7 := { stood := { row := imageAllRow, standIns := [], harness := (true, "39cc43693c6fe3c8d1c5fb10bac97d2cf06b25b20c2dc6e2565a235561452857"), looks := false }, kinds := [], alts := [], laidByText := true, laidKinds := [.data], laidTests := true, laidLooks := .later }
def ImageAllCardSaid : Prop := Claim7.holds Tryz.pinned (.plain (OpenSpec.ofChange imageAllSpec)) imageAllCard

/-- THE TIED CARD OF 'refrainlaw22.ImageFresh'. -/
def imageFreshCard : Claim7 := { stood := { row := imageFreshRow, standIns := [], harness := (true, "39cc43693c6fe3c8d1c5fb10bac97d2cf06b25b20c2dc6e2565a235561452857"), looks := false }, kinds := [], alts := [], laidByText := true, laidKinds := [.data], laidTests := true, laidLooks := .later }
def ImageFreshCardSaid : Prop := Claim7.holds Tryz.pinned (.plain (OpenSpec.ofChange imageFreshSpec)) imageFreshCard

/-- THE SECOND FORM's CARD OF 'refrainlaw22.ImageAll'. -/
def imageAllUptoCard : Claim7 := { stood := { row := imageAllUptoRow, standIns := [], harness := (true, "39cc43693c6fe3c8d1c5fb10bac97d2cf06b25b20c2dc6e2565a235561452857"), looks := false }, kinds := [], alts := [], laidByText := true, laidKinds := [.data], laidTests := true, laidLooks := .later }
def ImageAllUptoCardSaid : Prop := Claim7.holds Tryz.pinned (.plain (OpenSpec.upto imageAllSpec)) imageAllUptoCard

/-- THE SECOND FORM's CARD OF 'refrainlaw22.ImageFresh'. -/
def imageFreshUptoCard : Claim7 := { stood := { row := imageFreshUptoRow, standIns := [], harness := (true, "39cc43693c6fe3c8d1c5fb10bac97d2cf06b25b20c2dc6e2565a235561452857"), looks := false }, kinds := [], alts := [], laidByText := true, laidKinds := [.data], laidTests := true, laidLooks := .later }
def ImageFreshUptoCardSaid : Prop := Claim7.holds Tryz.pinned (.plain (OpenSpec.upto imageFreshSpec)) imageFreshUptoCard
end Rows
end Go.Proofs.YtcfgmkmllcfjjaaGreatDoor
