/-
  DERIVED. GIVEN WITH THE SEED: THE CARDS: each row of YtoonleefemkalaaDoorRows.lean that lists a variable, with what it lists TIED to the program's text (the seventh form; the later family's looks); each row that meets fmt, with fmt's text TOLD by the authors' own Lean function (tested against real Go, not proved from fmt's source: count such statements apart). THE CARD IS WHAT COUNTS. Prove the row's statement (the work); the ties are given (YtoonleefemkalaaDoorTie.lean); close each card by the builder's one call (the guide's Derived/Test/ToyasCard.lean, 'card_holds'). Laid BY PROGRAM, IN A SANDBOX (cutbox-door.mjs). By AI agents, Wed Nov 11 2026. No macro, syntax, notation, axiom, sorry.
-/
import Derived.Test.YtoonleefemkalaaDoorRows
import GoSem.ClaimSeven
namespace Go.Proofs.YtoonleefemkalaaDoor
namespace Rows

/-- THE TIED CARD OF 'raddlelaw31.LinkPackets'. -/
def linkPacketsCard : Claim7 := { stood := { row := linkPacketsRow, standIns := [], harness := (true, "2562e351ea5800658569fac3256bc35531d351c5955d68d91874ac7e25d36a23"), looks := true }, kinds := [], alts := [], laidByText := true, laidKinds := [.handle], laidTests := true, laidLooks := .later }
def LinkPacketsCardSaid : Prop := Claim7.holds Tryd.pinned (.plain (OpenSpec.ofChange linkPacketsSpec)) linkPacketsCard

/-- THE TIED CARD OF 'raddlelaw31.LinkActs'. -/
def linkActsCard : Claim7 := { stood := { row := linkActsRow, standIns := [], harness := (true, "2562e351ea5800658569fac3256bc35531d351c5955d68d91874ac7e25d36a23"), looks := true }, kinds := [], alts := [], laidByText := true, laidKinds := [.handle], laidTests := true, laidLooks := .later }
def LinkActsCardSaid : Prop := Claim7.holds Tryd.pinned (.plain (OpenSpec.ofChange linkActsSpec)) linkActsCard

/-- THE TIED CARD OF 'raddlelaw31.LinkCuts'. -/
def linkCutsCard : Claim7 := { stood := { row := linkCutsRow, standIns := [], harness := (true, "2562e351ea5800658569fac3256bc35531d351c5955d68d91874ac7e25d36a23"), looks := true }, kinds := [], alts := [], laidByText := true, laidKinds := [.handle], laidTests := true, laidLooks := .later }
def LinkCutsCardSaid : Prop := Claim7.holds Tryd.pinned (.plain (OpenSpec.ofChange linkCutsSpec)) linkCutsCard

/-- THE TIED CARD OF 'raddlelaw31.LinkOrder'. -/
def linkOrderCard : Claim7 := { stood := { row := linkOrderRow, standIns := [], harness := (true, "2562e351ea5800658569fac3256bc35531d351c5955d68d91874ac7e25d36a23"), looks := true }, kinds := [], alts := [], laidByText := true, laidKinds := [.handle], laidTests := true, laidLooks := .later }
def LinkOrderCardSaid : Prop := Claim7.holds Tryd.pinned (.plain (OpenSpec.ofChange linkOrderSpec)) linkOrderCard

/-- THE TIED CARD OF 'raddlelaw31.LinkPlays'. -/
def linkPlaysCard : Claim7 := { stood := { row := linkPlaysRow, standIns := [], harness := (true, "2562e351ea5800658569fac3256bc35531d351c5955d68d91874ac7e25d36a23"), looks := true }, kinds := [], alts := [], laidByText := true, laidKinds := [.handle], laidTests := true, laidLooks := .later }
def LinkPlaysCardSaid : Prop := Claim7.holds Tryd.pinned (.plain (OpenSpec.ofChange linkPlaysSpec)) linkPlaysCard

/-- THE TIED CARD OF 'raddlelaw31.LinkAll'. -/
def linkAllCard : Claim7 := { stood := { row := linkAllRow, standIns := [], harness := (true, "2562e351ea5800658569fac3256bc35531d351c5955d68d91874ac7e25d36a23"), looks := true }, kinds := [], alts := [], laidByText := true, laidKinds := [.handle], laidTests := true, laidLooks := .later }
def LinkAllCardSaid : Prop := Claim7.holds Tryd.pinned (.plain (OpenSpec.ofChange linkAllSpec)) linkAllCard

/-- THE SECOND FORM's CARD OF 'raddlelaw31.LinkPackets'. -/
def linkPacketsUptoCard : Claim7 := { stood := { row := linkPacketsUptoRow, standIns := [], harness := (true, "2562e351ea5800658569fac3256bc35531d351c5955d68d91874ac7e25d36a23"), looks := true }, kinds := [], alts := [], laidByText := true, laidKinds := [.handle], laidTests := true, laidLooks := .later }
def LinkPacketsUptoCardSaid : Prop := Claim7.holds Tryd.pinned (.plain (OpenSpec.upto linkPacketsSpec)) linkPacketsUptoCard

/-- THE SECOND FORM's CARD OF 'raddlelaw31.LinkActs'. -/
def linkActsUptoCard : Claim7 := { stood := { row := linkActsUptoRow, standIns := [], harness := (true, "2562e351ea5800658569fac3256bc35531d351c5955d68d91874ac7e25d36a23"), looks := true }, kinds := [], alts := [], laidByText := true, laidKinds := [.handle], laidTests := true, laidLooks := .later }
def LinkActsUptoCardSaid : Prop := Claim7.holds Tryd.pinned (.plain (OpenSpec.upto linkActsSpec)) linkActsUptoCard

/-- THE SECOND FORM's CARD OF 'raddlelaw31.LinkCuts'. -/
def linkCutsUptoCard : Claim7 := { stood := { row := linkCutsUptoRow, standIns := [], harness := (true, "2562e351ea5800658569fac3256bc35531d351c5955d68d91874ac7e25d36a23"), looks := true }, kinds := [], alts := [], laidByText := true, laidKinds := [.handle], laidTests := true, laidLooks := .later }
def LinkCutsUptoCardSaid : Prop := Claim7.holds Tryd.pinned (.plain (OpenSpec.upto linkCutsSpec)) linkCutsUptoCard

/-- THE SECOND FORM's CARD OF 'raddlelaw31.LinkOrder'. -/
def linkOrderUptoCard : Claim7 := { stood := { row := linkOrderUptoRow, standIns := [], harness := (true, "2562e351ea5800658569fac3256bc35531d351c5955d68d91874ac7e25d36a23"), looks := true }, kinds := [], alts := [], laidByText := true, laidKinds := [.handle], laidTests := true, laidLooks := .later }
def LinkOrderUptoCardSaid : Prop := Claim7.holds Tryd.pinned (.plain (OpenSpec.upto linkOrderSpec)) linkOrderUptoCard

/-- THE SECOND FORM's CARD OF 'raddlelaw31.LinkPlays'. -/
def linkPlaysUptoCard : Claim7 := { stood := { row := linkPlaysUptoRow, standIns := [], harness := (true, "2562e351ea5800658569fac3256bc35531d351c5955d68d91874ac7e25d36a23"), looks := true }, kinds := [], alts := [], laidByText := true, laidKinds := [.handle], laidTests := true, laidLooks := .later }
def LinkPlaysUptoCardSaid : Prop := Claim7.holds Tryd.pinned (.plain (OpenSpec.upto linkPlaysSpec)) linkPlaysUptoCard

/-- THE SECOND FORM's CARD OF 'raddlelaw31.LinkAll'. -/
def linkAllUptoCard : Claim7 := { stood := { row := linkAllUptoRow, standIns := [], harness := (true, "2562e351ea5800658569fac3256bc35531d351c5955d68d91874ac7e25d36a23"), looks := true }, kinds := [], alts := [], laidByText := true, laidKinds := [.handle], laidTests := true, laidLooks := .later }
def LinkAllUptoCardSaid : Prop := Claim7.holds Tryd.pinned (.plain (OpenSpec.upto linkAllSpec)) linkAllUptoCard
end Rows
end Go.Proofs.YtoonleefemkalaaDoor
