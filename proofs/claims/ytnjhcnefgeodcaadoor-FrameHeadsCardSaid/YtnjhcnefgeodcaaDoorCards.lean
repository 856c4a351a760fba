/-
  DERIVED. GIVEN WITH THE SEED: THE CARDS: each row of YtnjhcnefgeodcaaDoorRows.lean that lists a variable, with what it lists TIED to the program's text (the seventh form; the later family's looks); each row that meets fmt, with fmt's text TOLD by the authors' own Lean function (tested against real Go, not proved from fmt's source: count such statements apart). THE CARD IS WHAT COUNTS. Prove the row's statement (the work); the ties are given (YtnjhcnefgeodcaaDoorTie.lean); close each card by the builder's one call (the guide's Derived/Test/ToyasCard.lean, 'card_holds'). Laid BY PROGRAM, IN A SANDBOX (cutbox-door.mjs). By AI agents, Wed Nov 11 2026. No macro, syntax, notation, axiom, sorry.
-/
import Derived.Test.YtnjhcnefgeodcaaDoorRows
import GoSem.ClaimSeven
namespace Go.Proofs.YtnjhcnefgeodcaaDoor
namespace Rows

/-- THE TIED CARD OF 'switchyardlaw04.FramePuts'. -/
def framePutsCard : Claim7 := { stood := { row := framePutsRow, standIns := [], harness := (true, "105bd5ec6698630667ef8078be595eccf7be1e3515a539672c04c64052ee7a46"), looks := false }, kinds := [], alts := [], laidByText := true, laidKinds := [.data, .pinned], laidTests := true, laidLooks := .later }
def FramePutsCardSaid : Prop := Claim7.holds Tryd.pinned (.plain (OpenSpec.ofChange framePutsSpec)) framePutsCard

/-- THE TIED CARD OF 'switchyardlaw04.FrameBack'. -/
def frameBackCard : Claim7 := { stood := { row := frameBackRow, standIns := [], harness := (true, "105bd5ec6698630667ef8078be595eccf7be1e3515a539672c04c64052ee7a46"), looks := false }, kinds := [], alts := [], laidByText := true, laidKinds := [.data, .pinned], laidTests := true, laidLooks := .later }
def FrameBackCardSaid : Prop := Claim7.holds Tryd.pinned (.plain (OpenSpec.ofChange frameBackSpec)) frameBackCard

/-- THE TIED CARD OF 'switchyardlaw04.FrameTurns'. -/
def frameTurnsCard : Claim7 := { stood := { row := frameTurnsRow, standIns := [], harness := (true, "105bd5ec6698630667ef8078be595eccf7be1e3515a539672c04c64052ee7a46"), looks := false }, kinds := [], alts := [], laidByText := true, laidKinds := [.data, .pinned], laidTests := true, laidLooks := .later }
def FrameTurnsCardSaid : Prop := Claim7.holds Tryd.pinned (.plain (OpenSpec.ofChange frameTurnsSpec)) frameTurnsCard

/-- THE TIED CARD OF 'switchyardlaw04.FrameGets'. -/
def frameGetsCard : Claim7 := { stood := { row := frameGetsRow, standIns := [], harness := (true, "105bd5ec6698630667ef8078be595eccf7be1e3515a539672c04c64052ee7a46"), looks := false }, kinds := [], alts := [], laidByText := true, laidKinds := [.data, .pinned], laidTests := true, laidLooks := .later }
def FrameGetsCardSaid : Prop := Claim7.holds Tryd.pinned (.plain (OpenSpec.ofChange frameGetsSpec)) frameGetsCard

/-- THE TIED CARD OF 'switchyardlaw04.FrameHeads'. -/
def frameHeadsCard : Claim7 := { stood := { row := frameHeadsRow, standIns := [], harness := (true, "105bd5ec6698630667ef8078be595eccf7be1e3515a539672c04c64052ee7a46"), looks := false }, kinds := [], alts := [], laidByText := true, laidKinds := [.data, .pinned], laidTests := true, laidLooks := .later }
def FrameHeadsCardSaid : Prop := Claim7.holds Tryd.pinned (.plain (OpenSpec.ofChange frameHeadsSpec)) frameHeadsCard

/-- THE TIED CARD OF 'switchyardlaw04.FrameHeadTurns'. -/
def frameHeadTurnsCard : Claim7 := { stood := { row := frameHeadTurnsRow, standIns := [], harness := (true, "105bd5ec6698630667ef8078be595eccf7be1e3515a539672c04c64052ee7a46"), looks := false }, kinds := [], alts := [], laidByText := true, laidKinds := [.data, .pinned], laidTests := true, laidLooks := .later }
def FrameHeadTurnsCardSaid : Prop := Claim7.holds Tryd.pinned (.plain (OpenSpec.ofChange frameHeadTurnsSpec)) frameHeadTurnsCard

/-- THE SECOND FORM's CARD OF 'switchyardlaw04.FramePuts'. -/
def framePutsUptoCard : Claim7 := { stood := { row := framePutsUptoRow, standIns := [], harness := (true, "105bd5ec6698630667ef8078be595eccf7be1e3515a539672c04c64052ee7a46"), looks := false }, kinds := [], alts := [], laidByText := true, laidKinds := [.data, .pinned], laidTests := true, laidLooks := .later }
def FramePutsUptoCardSaid : Prop := Claim7.holds Tryd.pinned (.plain (OpenSpec.upto framePutsSpec)) framePutsUptoCard

/-- THE SECOND FORM's CARD OF 'switchyardlaw04.FrameBack'. -/
def frameBackUptoCard : Claim7 := { stood := { row := frameBackUptoRow, standIns := [], harness := (true, "105bd5ec6698630667ef8078be595eccf7be1e3515a539672c04c64052ee7a46"), looks := false }, kinds := [], alts := [], laidByText := true, laidKinds := [.data, .pinned], laidTests := true, laidLooks := .later }
def FrameBackUptoCardSaid : Prop := Claim7.holds Tryd.pinned (.plain (OpenSpec.upto frameBackSpec)) frameBackUptoCard

/-- THE SECOND FORM's CARD OF 'switchyardlaw04.FrameTurns'. -/
def frameTurnsUptoCard : Claim7 := { stood := { row := frameTurnsUptoRow, standIns := [], harness := (true, "105bd5ec6698630667ef8078be595eccf7be1e3515a539672c04c64052ee7a46"), looks := false }, kinds := [], alts := [], laidByText := true, laidKinds := [.data, .pinned], laidTests := true, laidLooks := .later }
def FrameTurnsUptoCardSaid : Prop := Claim7.holds Tryd.pinned (.plain (OpenSpec.upto frameTurnsSpec)) frameTurnsUptoCard

/-- THE SECOND FORM's CARD OF 'switchyardlaw04.FrameGets'. -/
def frameGetsUptoCard : Claim7 := { stood := { row := frameGetsUptoRow, standIns := [], harness := (true, "105bd5ec6698630667ef8078be595eccf7be1e3515a539672c04c64052ee7a46"), looks := false }, kinds := [], alts := [], laidByText := true, laidKinds := [.data, .pinned], laidTests := true, laidLooks := .later }
def FrameGetsUptoCardSaid : Prop := Claim7.holds Tryd.pinned (.plain (OpenSpec.upto frameGetsSpec)) frameGetsUptoCard

/-- THE SECOND FORM's CARD OF 'switchyardlaw04.FrameHeads'. -/
def frameHeadsUptoCard : Claim7 := { stood := { row := frameHeadsUptoRow, standIns := [], harness := (true, "105bd5ec6698630667ef8078be595eccf7be1e3515a539672c04c64052ee7a46"), looks := false }, kinds := [], alts := [], laidByText := true, laidKinds := [.data, .pinned], laidTests := true, laidLooks := .later }
def FrameHeadsUptoCardSaid : Prop := Claim7.holds Tryd.pinned (.plain (OpenSpec.upto frameHeadsSpec)) frameHeadsUptoCard

/-- THE SECOND FORM's CARD OF 'switchyardlaw04.FrameHeadTurns'. -/
def frameHeadTurnsUptoCard : Claim7 := { stood := { row := frameHeadTurnsUptoRow, standIns := [], harness := (true, "105bd5ec6698630667ef8078be595eccf7be1e3515a539672c04c64052ee7a46"), looks := false }, kinds := [], alts := [], laidByText := true, laidKinds := [.data, .pinned], laidTests := true, laidLooks := .later }
def FrameHeadTurnsUptoCardSaid : Prop := Claim7.holds Tryd.pinned (.plain (OpenSpec.upto frameHeadTurnsSpec)) frameHeadTurnsUptoCard
end Rows
end Go.Proofs.YtnjhcnefgeodcaaDoor
