/-
  DERIVED. GIVEN WITH THE SEED: THE CARDS: each row of YtceacooambpkdaaDoorRows.lean that lists a variable, with what it lists TIED to the program's text (the seventh form; the later family's looks); each row that meets fmt, with fmt's text TOLD by the authors' own Lean function (tested against real Go, not proved from fmt's source: count such statements apart). THE CARD IS WHAT COUNTS. Prove the row's statement (the work); the ties are given (YtceacooambpkdaaDoorTie.lean); close each card by the builder's one call (the guide's Derived/Test/ToyasCard.lean, 'card_holds'). Laid BY PROGRAM, IN A SANDBOX (cutbox-door.mjs). By AI agents, Wed Nov 11 2026. No macro, syntax, notation, axiom, sorry.
-/
import Derived.Test.YtceacooambpkdaaDoorRows
import GoSem.ClaimSeven
namespace Go.Proofs.YtceacooambpkdaaDoor
namespace Rows

/-- THE TIED CARD OF 'routescopelaw01.AddressTexts'. -/
def addressTextsCard : Claim7 := { stood := { row := addressTextsRow, standIns := [], harness := (true, "c3111457611dc176b513f584d35333b7184be68d625894162c648ae74407561c"), looks := true }, kinds := [], alts := [], laidByText := true, laidKinds := [.data, .data, .data, .sentinel, .sentinel], laidTests := true, laidLooks := .later }
def AddressTextsCardSaid : Prop := Claim7.holds Tryd.pinned (.plain (OpenSpec.ofChange addressTextsSpec)) addressTextsCard

/-- THE TIED CARD OF 'routescopelaw01.AddressBack'. -/
def addressBackCard : Claim7 := { stood := { row := addressBackRow, standIns := [], harness := (true, "c3111457611dc176b513f584d35333b7184be68d625894162c648ae74407561c"), looks := true }, kinds := [], alts := [], laidByText := true, laidKinds := [.data, .data, .data, .sentinel, .sentinel], laidTests := true, laidLooks := .later }
def AddressBackCardSaid : Prop := Claim7.holds Tryd.pinned (.plain (OpenSpec.ofChange addressBackSpec)) addressBackCard

/-- THE TIED CARD OF 'routescopelaw01.AddressCover'. -/
def addressCoverCard : Claim7 := { stood := { row := addressCoverRow, standIns := [], harness := (true, "c3111457611dc176b513f584d35333b7184be68d625894162c648ae74407561c"), looks := true }, kinds := [], alts := [], laidByText := true, laidKinds := [.data, .data, .data, .sentinel, .sentinel], laidTests := true, laidLooks := .later }
def AddressCoverCardSaid : Prop := Claim7.holds Tryd.pinned (.plain (OpenSpec.ofChange addressCoverSpec)) addressCoverCard

/-- THE TIED CARD OF 'routescopelaw01.AddressTree'. -/
def addressTreeCard : Claim7 := { stood := { row := addressTreeRow, standIns := [], harness := (true, "c3111457611dc176b513f584d35333b7184be68d625894162c648ae74407561c"), looks := true }, kinds := [], alts := [], laidByText := true, laidKinds := [.data, .data, .data, .sentinel, .sentinel], laidTests := true, laidLooks := .later }
def AddressTreeCardSaid : Prop := Claim7.holds Tryd.pinned (.plain (OpenSpec.ofChange addressTreeSpec)) addressTreeCard

/-- THE TIED CARD OF 'routescopelaw01.AddressSpecial'. -/
def addressSpecialCard : Claim7 := { stood := { row := addressSpecialRow, standIns := [], harness := (true, "c3111457611dc176b513f584d35333b7184be68d625894162c648ae74407561c"), looks := true }, kinds := [], alts := [], laidByText := true, laidKinds := [.data, .data, .data, .sentinel, .sentinel, .data], laidTests := true, laidLooks := .later }
def AddressSpecialCardSaid : Prop := Claim7.holds Tryd.pinned (.plain (OpenSpec.ofChange addressSpecialSpec)) addressSpecialCard

/-- THE TIED CARD OF 'routescopelaw01.AddressPrefixes'. -/
def addressPrefixesCard : Claim7 := { stood := { row := addressPrefixesRow, standIns := [], harness := (true, "c3111457611dc176b513f584d35333b7184be68d625894162c648ae74407561c"), looks := true }, kinds := [], alts := [], laidByText := true, laidKinds := [.data, .data, .data, .sentinel, .sentinel], laidTests := true, laidLooks := .later }
def AddressPrefixesCardSaid : Prop := Claim7.holds Tryd.pinned (.plain (OpenSpec.ofChange addressPrefixesSpec)) addressPrefixesCard

/-- THE SECOND FORM's CARD OF 'routescopelaw01.AddressTexts'. -/
def addressTextsUptoCard : Claim7 := { stood := { row := addressTextsUptoRow, standIns := [], harness := (true, "c3111457611dc176b513f584d35333b7184be68d625894162c648ae74407561c"), looks := true }, kinds := [], alts := [], laidByText := true, laidKinds := [.data, .data, .data, .sentinel, .sentinel], laidTests := true, laidLooks := .later }
def AddressTextsUptoCardSaid : Prop := Claim7.holds Tryd.pinned (.plain (OpenSpec.upto addressTextsSpec)) addressTextsUptoCard

/-- THE SECOND FORM's CARD OF 'routescopelaw01.AddressBack'. -/
def addressBackUptoCard : Claim7 := { stood := { row := addressBackUptoRow, standIns := [], harness := (true, "c3111457611dc176b513f584d35333b7184be68d625894162c648ae74407561c"), looks := true }, kinds := [], alts := [], laidByText := true, laidKinds := [.data, .data, .data, .sentinel, .sentinel], laidTests := true, laidLooks := .later }
def AddressBackUptoCardSaid : Prop := Claim7.holds Tryd.pinned (.plain (OpenSpec.upto addressBackSpec)) addressBackUptoCard

/-- THE SECOND FORM's CARD OF 'routescopelaw01.AddressCover'. -/
def addressCoverUptoCard : Claim7 := { stood := { row := addressCoverUptoRow, standIns := [], harness := (true, "c3111457611dc176b513f584d35333b7184be68d625894162c648ae74407561c"), looks := true }, kinds := [], alts := [], laidByText := true, laidKinds := [.data, .data, .data, .sentinel, .sentinel], laidTests := true, laidLooks := .later }
def AddressCoverUptoCardSaid : Prop := Claim7.holds Tryd.pinned (.plain (OpenSpec.upto addressCoverSpec)) addressCoverUptoCard

/-- THE SECOND FORM's CARD OF 'routescopelaw01.AddressTree'. -/
def addressTreeUptoCard : Claim7 := { stood := { row := addressTreeUptoRow, standIns := [], harness := (true, "c3111457611dc176b513f584d35333b7184be68d625894162c648ae74407561c"), looks := true }, kinds := [], alts := [], laidByText := true, laidKinds := [.data, .data, .data, .sentinel, .sentinel], laidTests := true, laidLooks := .later }
def AddressTreeUptoCardSaid : Prop := Claim7.holds Tryd.pinned (.plain (OpenSpec.upto addressTreeSpec)) addressTreeUptoCard

/-- THE SECOND FORM's CARD OF 'routescopelaw01.AddressSpecial'. -/
def addressSpecialUptoCard : Claim7 := { stood := { row := addressSpecialUptoRow, standIns := [], harness := (true, "c3111457611dc176b513f584d35333b7184be68d625894162c648ae74407561c"), looks := true }, kinds := [], alts := [], laidByText := true, laidKinds := [.data, .data, .data, .sentinel, .sentinel, .data], laidTests := true, laidLooks := .later }
def AddressSpecialUptoCardSaid : Prop := Claim7.holds Tryd.pinned (.plain (OpenSpec.upto addressSpecialSpec)) addressSpecialUptoCard

/-- THE SECOND FORM's CARD OF 'routescopelaw01.AddressPrefixes'. -/
def addressPrefixesUptoCard : Claim7 := { stood := { row := addressPrefixesUptoRow, standIns := [], harness := (true, "c3111457611dc176b513f584d35333b7184be68d625894162c648ae74407561c"), looks := true }, kinds := [], alts := [], laidByText := true, laidKinds := [.data, .data, .data, .sentinel, .sentinel], laidTests := true, laidLooks := .later }
def AddressPrefixesUptoCardSaid : Prop := Claim7.holds Tryd.pinned (.plain (OpenSpec.upto addressPrefixesSpec)) addressPrefixesUptoCard
end Rows
end Go.Proofs.YtceacooambpkdaaDoor
