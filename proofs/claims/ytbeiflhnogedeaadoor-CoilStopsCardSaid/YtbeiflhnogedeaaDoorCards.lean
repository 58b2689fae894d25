/-
  DERIVED. GIVEN WITH THE SEED: THE CARDS: each row of YtbeiflhnogedeaaDoorRows.lean that lists a variable, with what it lists TIED to the program's text (the seventh form; the later family's looks); each row that meets fmt, with fmt's text TOLD by the authors' own Lean function (tested against real Go, not proved from fmt's source: count such statements apart). THE CARD IS WHAT COUNTS. Prove the row's statement (the work); the ties are given (YtbeiflhnogedeaaDoorTie.lean); close each card by the builder's one call (the guide's Derived/Test/ToyasCard.lean, 'card_holds'). Laid BY PROGRAM, IN A SANDBOX (cutbox-door.mjs). By AI agents, Wed Nov 11 2026. No macro, syntax, notation, axiom, sorry.
-/
import Derived.Test.YtbeiflhnogedeaaDoorRows
import GoSem.ClaimSeven
namespace Go.Proofs.YtbeiflhnogedeaaDoor
namespace Rows

/-- THE TIED CARD OF 'daisychainlaw01.CoilStops'. -/
def coilStopsCard : Claim7 := { stood := { row := coilStopsRow, standIns := [], harness := (true, "76527c56d945c2e7657216ce6c63a106e4444d6f9261d28688f93b8b3768153b"), looks := true }, kinds := [], alts := [], laidByText := true, laidKinds := [.handle], laidTests := true, laidLooks := .later }
def CoilStopsCardSaid : Prop := Claim7.holds Tryd.pinned (.plain (OpenSpec.ofChange coilStopsSpec)) coilStopsCard

/-- THE TIED CARD OF 'daisychainlaw01.CoilFaults'. -/
def coilFaultsCard : Claim7 := { stood := { row := coilFaultsRow, standIns := [], harness := (true, "76527c56d945c2e7657216ce6c63a106e4444d6f9261d28688f93b8b3768153b"), looks := true }, kinds := [], alts := [], laidByText := true, laidKinds := [.data, .data, .data, .handle], laidTests := true, laidLooks := .later }
def CoilFaultsCardSaid : Prop := Claim7.holds Tryd.pinned (.plain (OpenSpec.ofChange coilFaultsSpec)) coilFaultsCard

/-- THE SECOND FORM's CARD OF 'daisychainlaw01.CoilStops'. -/
def coilStopsUptoCard : Claim7 := { stood := { row := coilStopsUptoRow, standIns := [], harness := (true, "76527c56d945c2e7657216ce6c63a106e4444d6f9261d28688f93b8b3768153b"), looks := true }, kinds := [], alts := [], laidByText := true, laidKinds := [.handle], laidTests := true, laidLooks := .later }
def CoilStopsUptoCardSaid : Prop := Claim7.holds Tryd.pinned (.plain (OpenSpec.upto coilStopsSpec)) coilStopsUptoCard

/-- THE SECOND FORM's CARD OF 'daisychainlaw01.CoilFaults'. -/
def coilFaultsUptoCard : Claim7 := { stood := { row := coilFaultsUptoRow, standIns := [], harness := (true, "76527c56d945c2e7657216ce6c63a106e4444d6f9261d28688f93b8b3768153b"), looks := true }, kinds := [], alts := [], laidByText := true, laidKinds := [.data, .data, .data, .handle], laidTests := true, laidLooks := .later }
def CoilFaultsUptoCardSaid : Prop := Claim7.holds Tryd.pinned (.plain (OpenSpec.upto coilFaultsSpec)) coilFaultsUptoCard
end Rows
end Go.Proofs.YtbeiflhnogedeaaDoor
