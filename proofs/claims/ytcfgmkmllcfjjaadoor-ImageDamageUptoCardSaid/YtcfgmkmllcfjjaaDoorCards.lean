/-
  DERIVED. GIVEN WITH THE SEED: THE CARDS: each row of YtcfgmkmllcfjjaaDoorRows.lean that lists a variable, with what it lists TIED to the program's text (the seventh form; the later family's looks); each row that meets fmt, with fmt's text TOLD by the authors' own Lean function (tested against real Go, not proved from fmt's source: count such statements apart). THE CARD IS WHAT COUNTS. Prove the row's statement (the work); the ties are given (YtcfgmkmllcfjjaaDoorTie.lean); close each card by the builder's one call (the guide's Derived/Test/ToyasCard.lean, 'card_holds'). Laid BY PROGRAM, IN A SANDBOX (cutbox-door.mjs). By AI agents, Wed Nov 11 2026. No macro, syntax, notation, axiom, sorry.
-/
import Derived.Test.YtcfgmkmllcfjjaaDoorRows
import GoSem.ClaimSeven
namespace Go.Proofs.YtcfgmkmllcfjjaaDoor
namespace Rows

/-- THE TIED CARD OF 'refrainlaw22.ImageForm'. -/
def imageFormCard : Claim7 := { stood := { row := imageFormRow, standIns := [], harness := (true, "ab5697dbbf77cd52e7705d906931f5e7de0cb2f07340fd4c69585a4e860f53b4"), looks := false }, kinds := [], alts := [], laidByText := true, laidKinds := [.data], laidTests := true, laidLooks := .later }
def ImageFormCardSaid : Prop := Claim7.holds Tryd.pinned (.plain (OpenSpec.ofChange imageFormSpec)) imageFormCard

/-- THE TIED CARD OF 'refrainlaw22.ImageDamage'. -/
def imageDamageCard : Claim7 := { stood := { row := imageDamageRow, standIns := [], harness := (true, "ab5697dbbf77cd52e7705d906931f5e7de0cb2f07340fd4c69585a4e860f53b4"), looks := false }, kinds := [], alts := [], laidByText := true, laidKinds := [.data], laidTests := true, laidLooks := .later }
def ImageDamageCardSaid : Prop := Claim7.holds Tryd.pinned (.plain (OpenSpec.ofChange imageDamageSpec)) imageDamageCard

/-- THE SECOND FORM's CARD OF 'refrainlaw22.ImageForm'. -/
def imageFormUptoCard : Claim7 := { stood := { row := imageFormUptoRow, standIns := [], harness := (true, "ab5697dbbf77cd52e7705d906931f5e7de0cb2f07340fd4c69585a4e860f53b4"), looks := false }, kinds := [], alts := [], laidByText := true, laidKinds := [.data], laidTests := true, laidLooks := .later }
def ImageFormUptoCardSaid : Prop := Claim7.holds Tryd.pinned (.plain (OpenSpec.upto imageFormSpec)) imageFormUptoCard

/-- THE SECOND FORM's CARD OF 'refrainlaw22.ImageDamage'. -/
def imageDamageUptoCard : Claim7 := { stood := { row := imageDamageUptoRow, standIns := [], harness := (true, "ab5697dbbf77cd52e7705d906931f5e7de0cb2f07340fd4c69585a4e860f53b4"), looks := false }, kinds := [], alts := [], laidByText := true, laidKinds := [.data], laidTests := true, laidLooks := .later }
def ImageDamageUptoCardSaid : Prop := Claim7.holds Tryd.pinned (.plain (OpenSpec.upto imageDamageSpec)) imageDamageUptoCard
end Rows
end Go.Proofs.YtcfgmkmllcfjjaaDoor
