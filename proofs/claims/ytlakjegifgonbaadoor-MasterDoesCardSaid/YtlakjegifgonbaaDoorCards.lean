/-
  DERIVED. GIVEN WITH THE SEED: THE CARDS: each row of YtlakjegifgonbaaDoorRows.lean that lists a variable, with what it lists TIED to the program's text (the seventh form; the later family's looks); each row that meets fmt, with fmt's text TOLD by the authors' own Lean function (tested against real Go, not proved from fmt's source: count such statements apart). THE CARD IS WHAT COUNTS. Prove the row's statement (the work); the ties are given (YtlakjegifgonbaaDoorTie.lean); close each card by the builder's one call (the guide's Derived/Test/ToyasCard.lean, 'card_holds'). Laid BY PROGRAM, IN A SANDBOX (cutbox-door.mjs). By AI agents, Wed Nov 11 2026. No macro, syntax, notation, axiom, sorry.
-/
import Derived.Test.YtlakjegifgonbaaDoorRows
import GoSem.ClaimSeven
namespace Go.Proofs.YtlakjegifgonbaaDoor
namespace Rows

/-- THE TIED CARD OF 'daisychainlaw13.MasterDoes'. -/
def masterDoesCard : Claim7 := { stood := { row := masterDoesRow, standIns := [], harness := (true, "b87f22f0dd4db3f55605e32eef86dd7d0f36a471cf3b4545ddf744cde23c2131"), looks := false }, kinds := [], alts := [], laidByText := true, laidKinds := [.data, .data, .data], laidTests := true, laidLooks := .later }
def MasterDoesCardSaid : Prop := Claim7.holds Tryd.pinned (.plain (OpenSpec.ofChange masterDoesSpec)) masterDoesCard

/-- THE TIED CARD OF 'daisychainlaw13.MasterKeeps'. -/
def masterKeepsCard : Claim7 := { stood := { row := masterKeepsRow, standIns := [], harness := (true, "b87f22f0dd4db3f55605e32eef86dd7d0f36a471cf3b4545ddf744cde23c2131"), looks := false }, kinds := [], alts := [], laidByText := true, laidKinds := [.data, .data, .data], laidTests := true, laidLooks := .later }
def MasterKeepsCardSaid : Prop := Claim7.holds Tryd.pinned (.plain (OpenSpec.ofChange masterKeepsSpec)) masterKeepsCard

/-- THE TIED CARD OF 'daisychainlaw13.MasterOrders'. -/
def masterOrdersCard : Claim7 := { stood := { row := masterOrdersRow, standIns := [], harness := (true, "b87f22f0dd4db3f55605e32eef86dd7d0f36a471cf3b4545ddf744cde23c2131"), looks := false }, kinds := [], alts := [], laidByText := true, laidKinds := [.data, .data, .data], laidTests := true, laidLooks := .later }
def MasterOrdersCardSaid : Prop := Claim7.holds Tryd.pinned (.plain (OpenSpec.ofChange masterOrdersSpec)) masterOrdersCard

/-- THE TIED CARD OF 'daisychainlaw13.MasterOwn'. -/
def masterOwnCard : Claim7 := { stood := { row := masterOwnRow, standIns := [], harness := (true, "b87f22f0dd4db3f55605e32eef86dd7d0f36a471cf3b4545ddf744cde23c2131"), looks := false }, kinds := [], alts := [], laidByText := true, laidKinds := [.data, .data, .data], laidTests := true, laidLooks := .later }
def MasterOwnCardSaid : Prop := Claim7.holds Tryd.pinned (.plain (OpenSpec.ofChange masterOwnSpec)) masterOwnCard

/-- THE TIED CARD OF 'daisychainlaw13.MasterFull'. -/
def masterFullCard : Claim7 := { stood := { row := masterFullRow, standIns := [], harness := (true, "b87f22f0dd4db3f55605e32eef86dd7d0f36a471cf3b4545ddf744cde23c2131"), looks := false }, kinds := [], alts := [], laidByText := true, laidKinds := [.data, .data, .data], laidTests := true, laidLooks := .later }
def MasterFullCardSaid : Prop := Claim7.holds Tryd.pinned (.plain (OpenSpec.ofChange masterFullSpec)) masterFullCard

/-- THE TIED CARD OF 'daisychainlaw13.MasterBeside'. -/
def masterBesideCard : Claim7 := { stood := { row := masterBesideRow, standIns := [], harness := (true, "b87f22f0dd4db3f55605e32eef86dd7d0f36a471cf3b4545ddf744cde23c2131"), looks := false }, kinds := [], alts := [], laidByText := true, laidKinds := [.data, .data, .data], laidTests := true, laidLooks := .later }
def MasterBesideCardSaid : Prop := Claim7.holds Tryd.pinned (.plain (OpenSpec.ofChange masterBesideSpec)) masterBesideCard

/-- THE SECOND FORM's CARD OF 'daisychainlaw13.MasterDoes'. -/
def masterDoesUptoCard : Claim7 := { stood := { row := masterDoesUptoRow, standIns := [], harness := (true, "b87f22f0dd4db3f55605e32eef86dd7d0f36a471cf3b4545ddf744cde23c2131"), looks := false }, kinds := [], alts := [], laidByText := true, laidKinds := [.data, .data, .data], laidTests := true, laidLooks := .later }
def MasterDoesUptoCardSaid : Prop := Claim7.holds Tryd.pinned (.plain (OpenSpec.upto masterDoesSpec)) masterDoesUptoCard

/-- THE SECOND FORM's CARD OF 'daisychainlaw13.MasterKeeps'. -/
def masterKeepsUptoCard : Claim7 := { stood := { row := masterKeepsUptoRow, standIns := [], harness := (true, "b87f22f0dd4db3f55605e32eef86dd7d0f36a471cf3b4545ddf744cde23c2131"), looks := false }, kinds := [], alts := [], laidByText := true, laidKinds := [.data, .data, .data], laidTests := true, laidLooks := .later }
def MasterKeepsUptoCardSaid : Prop := Claim7.holds Tryd.pinned (.plain (OpenSpec.upto masterKeepsSpec)) masterKeepsUptoCard

/-- THE SECOND FORM's CARD OF 'daisychainlaw13.MasterOrders'. -/
def masterOrdersUptoCard : Claim7 := { stood := { row := masterOrdersUptoRow, standIns := [], harness := (true, "b87f22f0dd4db3f55605e32eef86dd7d0f36a471cf3b4545ddf744cde23c2131"), looks := false }, kinds := [], alts := [], laidByText := true, laidKinds := [.data, .data, .data], laidTests := true, laidLooks := .later }
def MasterOrdersUptoCardSaid : Prop := Claim7.holds Tryd.pinned (.plain (OpenSpec.upto masterOrdersSpec)) masterOrdersUptoCard

/-- THE SECOND FORM's CARD OF 'daisychainlaw13.MasterOwn'. -/
def masterOwnUptoCard : Claim7 := { stood := { row := masterOwnUptoRow, standIns := [], harness := (true, "b87f22f0dd4db3f55605e32eef86dd7d0f36a471cf3b4545ddf744cde23c2131"), looks := false }, kinds := [], alts := [], laidByText := true, laidKinds := [.data, .data, .data], laidTests := true, laidLooks := .later }
def MasterOwnUptoCardSaid : Prop := Claim7.holds Tryd.pinned (.plain (OpenSpec.upto masterOwnSpec)) masterOwnUptoCard

/-- THE SECOND FORM's CARD OF 'daisychainlaw13.MasterFull'. -/
def masterFullUptoCard : Claim7 := { stood := { row := masterFullUptoRow, standIns := [], harness := (true, "b87f22f0dd4db3f55605e32eef86dd7d0f36a471cf3b4545ddf744cde23c2131"), looks := false }, kinds := [], alts := [], laidByText := true, laidKinds := [.data, .data, .data], laidTests := true, laidLooks := .later }
def MasterFullUptoCardSaid : Prop := Claim7.holds Tryd.pinned (.plain (OpenSpec.upto masterFullSpec)) masterFullUptoCard

/-- THE SECOND FORM's CARD OF 'daisychainlaw13.MasterBeside'. -/
def masterBesideUptoCard : Claim7 := { stood := { row := masterBesideUptoRow, standIns := [], harness := (true, "b87f22f0dd4db3f55605e32eef86dd7d0f36a471cf3b4545ddf744cde23c2131"), looks := false }, kinds := [], alts := [], laidByText := true, laidKinds := [.data, .data, .data], laidTests := true, laidLooks := .later }
def MasterBesideUptoCardSaid : Prop := Claim7.holds Tryd.pinned (.plain (OpenSpec.upto masterBesideSpec)) masterBesideUptoCard
end Rows
end Go.Proofs.YtlakjegifgonbaaDoor
