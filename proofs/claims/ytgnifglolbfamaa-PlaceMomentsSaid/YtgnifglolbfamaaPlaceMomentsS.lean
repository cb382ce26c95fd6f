/-
  The law PlaceMoments: for every query and every condition the call returns true and its arguments read as they did.
  Conditions: none beyond the row's own.
-/
import Derived.Test.YtgnifglolbfamaaPmN
import Derived.Test.YtgnifglolbfamaaPlY
namespace Go.Proofs.Ytgnifglolbfamaa
/-- PlaceMoments, as given. -/
theorem placeMoments_holds : Rows.PlaceMomentsSaid :=
  placeMoments.over (mom_law (fun _ _ _ _ _ _ h k n hv hni x A c hN hc hCx hlen hbase => add_any h k n hv hni x A c hN hc hCx hlen hbase))
end Go.Proofs.Ytgnifglolbfamaa
