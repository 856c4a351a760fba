/-
  DERIVED. GIVEN WITH THE SEED: THE CARDS: each row of YtjhbbbcelnlnpaaGreatDoorRows.lean that lists a variable, with what it lists TIED to the program's text (the seventh form; the later family's looks); each row that meets fmt, with fmt's text TOLD by the authors' own Lean function (tested against real Go, not proved from fmt's source: count such statements apart). THE CARD IS WHAT COUNTS. Prove the row's statement (the work); the ties are given (YtjhbbbcelnlnpaaGreatDoorTie.lean); close each card by the builder's one call (the guide's Derived/Test/ToyasCard.lean, 'card_holds'). Laid BY PROGRAM, IN A SANDBOX (cutbox-door.mjs). By AI agents, Wed Nov 11 2026. No macro, syntax, notation, axiom, sorry.
-/
import Derived.Test.YtjhbbbcelnlnpaaGreatDoorRows
import GoSem.ClaimSeven
namespace Go.Proofs.YtjhbbbcelnlnpaaGreatDoor
namespace Rows

/-- THE TIED CARD OF 'switchyardlaw05.WalLasts'. -/
def walLastsCard : Claim7 := { stood := { row := walLastsRow, standIns := [], harness := (true, "83f376b6f31d92c5b266969232251ef758a64f3d4277570b0ca4d4807bf0db1c"), looks := false }, kinds := [], alts := [], laidByText := true, laidKinds := [.data, .pinned], laidTests := true, laidLooks := .later }
def WalLastsCardSaid : Prop := Claim7.holds Tryz.pinned (.plain (OpenSpec.ofChange walLastsSpec)) walLastsCard

/-- THE TIED CARD OF 'switchyardlaw05.WalChecks'. -/
def walChecksCard : Claim7 := { stood := { row := walChecksRow, standIns := [], harness := (true, "83f376b6f31d92c5b266969232251ef758a64f3d4277570b0ca4d4807bf0db1c"), looks := false }, kinds := [], alts := [], laidByText := true, laidKinds := [.data, .pinned], laidTests := true, laidLooks := .later }
def WalChecksCardSaid : Prop := Claim7.holds Tryz.pinned (.plain (OpenSpec.ofChange walChecksSpec)) walChecksCard

/-- THE TIED CARD OF 'switchyardlaw05.WalTwice'. -/
def walTwiceCard : Claim7 := { stood := { row := walTwiceRow, standIns := [], harness := (true, "83f376b6f31d92c5b266969232251ef758a64f3d4277570b0ca4d4807bf0db1c"), looks := false }, kinds := [], alts := [], laidByText := true, laidKinds := [.data, .pinned], laidTests := true, laidLooks := .later }
def WalTwiceCardSaid : Prop := Claim7.holds Tryz.pinned (.plain (OpenSpec.ofChange walTwiceSpec)) walTwiceCard

/-- THE TIED CARD OF 'switchyardlaw05.WalNil'. -/
def walNilCard : Claim7 := { stood := { row := walNilRow, standIns := [], harness := (true, "83f376b6f31d92c5b266969232251ef758a64f3d4277570b0ca4d4807bf0db1c"), looks := false }, kinds := [], alts := [], laidByText := true, laidKinds := [.data, .pinned], laidTests := true, laidLooks := .later }
def WalNilCardSaid : Prop := Claim7.holds Tryz.pinned (.plain (OpenSpec.ofChange walNilSpec)) walNilCard

/-- THE TIED CARD OF 'switchyardlaw05.WalSplits'. -/
def walSplitsCard : Claim7 := { stood := { row := walSplitsRow, standIns := [], harness := (true, "83f376b6f31d92c5b266969232251ef758a64f3d4277570b0ca4d4807bf0db1c"), looks := false }, kinds := [], alts := [], laidByText := true, laidKinds := [.data, .pinned], laidTests := true, laidLooks := .later }
def WalSplitsCardSaid : Prop := Claim7.holds Tryz.pinned (.plain (OpenSpec.ofChange walSplitsSpec)) walSplitsCard

/-- THE SECOND FORM's CARD OF 'switchyardlaw05.WalLasts'. -/
def walLastsUptoCard : Claim7 := { stood := { row := walLastsUptoRow, standIns := [], harness := (true, "83f376b6f31d92c5b266969232251ef758a64f3d4277570b0ca4d4807bf0db1c"), looks := false }, kinds := [], alts := [], laidByText := true, laidKinds := [.data, .pinned], laidTests := true, laidLooks := .later }
def WalLastsUptoCardSaid : Prop := Claim7.holds Tryz.pinned (.plain (OpenSpec.upto walLastsSpec)) walLastsUptoCard

/-- THE SECOND FORM's CARD OF 'switchyardlaw05.WalChecks'. -/
def walChecksUptoCard : Claim7 := { stood := { row := walChecksUptoRow, standIns := [], harness := (true, "83f376b6f31d92c5b266969232251ef758a64f3d4277570b0ca4d4807bf0db1c"), looks := false }, kinds := [], alts := [], laidByText := true, laidKinds := [.data, .pinned], laidTests := true, laidLooks := .later }
def WalChecksUptoCardSaid : Prop := Claim7.holds Tryz.pinned (.plain (OpenSpec.upto walChecksSpec)) walChecksUptoCard

/-- THE SECOND FORM's CARD OF 'switchyardlaw05.WalTwice'. -/
def walTwiceUptoCard : Claim7 := { stood := { row := walTwiceUptoRow, standIns := [], harness := (true, "83f376b6f31d92c5b266969232251ef758a64f3d4277570b0ca4d4807bf0db1c"), looks := false }, kinds := [], alts := [], laidByText := true, laidKinds := [.data, .pinned], laidTests := true, laidLooks := .later }
def WalTwiceUptoCardSaid : Prop := Claim7.holds Tryz.pinned (.plain (OpenSpec.upto walTwiceSpec)) walTwiceUptoCard

/-- THE SECOND FORM's CARD OF 'switchyardlaw05.WalNil'. -/
def walNilUptoCard : Claim7 := { stood := { row := walNilUptoRow, standIns := [], harness := (true, "83f376b6f31d92c5b266969232251ef758a64f3d4277570b0ca4d4807bf0db1c"), looks := false }, kinds := [], alts := [], laidByText := true, laidKinds := [.data, .pinned], laidTests := true, laidLooks := .later }
def WalNilUptoCardSaid : Prop := Claim7.holds Tryz.pinned (.plain (OpenSpec.upto walNilSpec)) walNilUptoCard

/-- THE SECOND FORM's CARD OF 'switchyardlaw05.WalSplits'. -/
def walSplitsUptoCard : Claim7 := { stood := { row := walSplitsUptoRow, standIns := [], harness := (true, "83f376b6f31d92c5b266969232251ef758a64f3d4277570b0ca4d4807bf0db1c"), looks := false }, kinds := [], alts := [], laidByText := true, laidKinds := [.data, .pinned], laidTests := true, laidLooks := .later }
def WalSplitsUptoCardSaid : Prop := Claim7.holds Tryz.pinned (.plain (OpenSpec.upto walSplitsSpec)) walSplitsUptoCard
end Rows
end Go.Proofs.YtjhbbbcelnlnpaaGreatDoor
