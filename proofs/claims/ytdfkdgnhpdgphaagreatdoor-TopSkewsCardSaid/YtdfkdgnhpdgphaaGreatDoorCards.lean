/-
  DERIVED. GIVEN WITH THE SEED: THE CARDS: each row of YtdfkdgnhpdgphaaGreatDoorRows.lean that lists a variable, with what it lists TIED to the program's text (the seventh form; the later family's looks); each row that meets fmt, with fmt's text TOLD by the authors' own Lean function (tested against real Go, not proved from fmt's source: count such statements apart). THE CARD IS WHAT COUNTS. Prove the row's statement (the work); the ties are given (YtdfkdgnhpdgphaaGreatDoorTie.lean); close each card by the builder's one call (the guide's Derived/Test/ToyasCard.lean, 'card_holds'). Laid BY PROGRAM, IN A SANDBOX (cutbox-door.mjs). By AI agents, Wed Nov 11 2026. No macro, syntax, notation, axiom, sorry.
-/
import Derived.Test.YtdfkdgnhpdgphaaGreatDoorRows
import GoSem.ClaimSeven
namespace Go.Proofs.YtdfkdgnhpdgphaaGreatDoor
namespace Rows

/-- THE TIED CARD OF 'ligaturetop.TopTwins'. -/
def topTwinsCard : Claim7 := { stood := { row := topTwinsRow, standIns := [], harness := (true, "54946e35a8683187a51f35b70c0626f5eda603fdd9bcb2094a57c0af3ec98da4"), looks := false }, kinds := [], alts := [], laidByText := true, laidKinds := [.data, .pinned], laidTests := true, laidLooks := .later }
def TopTwinsCardSaid : Prop := Claim7.holds Tryz.pinned (.plain (OpenSpec.ofChange topTwinsSpec)) topTwinsCard

/-- THE TIED CARD OF 'ligaturetop.TopReopens'. -/
def topReopensCard : Claim7 := { stood := { row := topReopensRow, standIns := [], harness := (true, "54946e35a8683187a51f35b70c0626f5eda603fdd9bcb2094a57c0af3ec98da4"), looks := false }, kinds := [], alts := [], laidByText := true, laidKinds := [.data, .pinned], laidTests := true, laidLooks := .later }
def TopReopensCardSaid : Prop := Claim7.holds Tryz.pinned (.plain (OpenSpec.ofChange topReopensSpec)) topReopensCard

/-- THE TIED CARD OF 'ligaturetop.TopSkews'. -/
def topSkewsCard : Claim7 := { stood := { row := topSkewsRow, standIns := [], harness := (true, "54946e35a8683187a51f35b70c0626f5eda603fdd9bcb2094a57c0af3ec98da4"), looks := false }, kinds := [], alts := [], laidByText := true, laidKinds := [.data, .pinned], laidTests := true, laidLooks := .later }
def TopSkewsCardSaid : Prop := Claim7.holds Tryz.pinned (.plain (OpenSpec.ofChange topSkewsSpec)) topSkewsCard

/-- THE SECOND FORM's CARD OF 'ligaturetop.TopTwins'. -/
def topTwinsUptoCard : Claim7 := { stood := { row := topTwinsUptoRow, standIns := [], harness := (true, "54946e35a8683187a51f35b70c0626f5eda603fdd9bcb2094a57c0af3ec98da4"), looks := false }, kinds := [], alts := [], laidByText := true, laidKinds := [.data, .pinned], laidTests := true, laidLooks := .later }
def TopTwinsUptoCardSaid : Prop := Claim7.holds Tryz.pinned (.plain (OpenSpec.upto topTwinsSpec)) topTwinsUptoCard

/-- THE SECOND FORM's CARD OF 'ligaturetop.TopReopens'. -/
def topReopensUptoCard : Claim7 := { stood := { row := topReopensUptoRow, standIns := [], harness := (true, "54946e35a8683187a51f35b70c0626f5eda603fdd9bcb2094a57c0af3ec98da4"), looks := false }, kinds := [], alts := [], laidByText := true, laidKinds := [.data, .pinned], laidTests := true, laidLooks := .later }
def TopReopensUptoCardSaid : Prop := Claim7.holds Tryz.pinned (.plain (OpenSpec.upto topReopensSpec)) topReopensUptoCard

/-- THE SECOND FORM's CARD OF 'ligaturetop.TopSkews'. -/
def topSkewsUptoCard : Claim7 := { stood := { row := topSkewsUptoRow, standIns := [], harness := (true, "54946e35a8683187a51f35b70c0626f5eda603fdd9bcb2094a57c0af3ec98da4"), looks := false }, kinds := [], alts := [], laidByText := true, laidKinds := [.data, .pinned], laidTests := true, laidLooks := .later }
def TopSkewsUptoCardSaid : Prop := Claim7.holds Tryz.pinned (.plain (OpenSpec.upto topSkewsSpec)) topSkewsUptoCard
end Rows
end Go.Proofs.YtdfkdgnhpdgphaaGreatDoor
