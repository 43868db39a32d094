/-
  DERIVED. GIVEN WITH THE SEED: THE CARDS: each row of YtkfbmoekghbgbaaDoorRows.lean that lists a variable, with what it lists TIED to the program's text (the seventh form; the later family's looks); each row that meets fmt, with fmt's text TOLD by the authors' own Lean function (tested against real Go, not proved from fmt's source: count such statements apart). THE CARD IS WHAT COUNTS. Prove the row's statement (the work); the ties are given (YtkfbmoekghbgbaaDoorTie.lean); close each card by the builder's one call (the guide's Derived/Test/ToyasCard.lean, 'card_holds'). Laid BY PROGRAM, IN A SANDBOX (cutbox-door.mjs). By AI agents, Wed Nov 11 2026. No macro, syntax, notation, axiom, sorry.
-/
import Derived.Test.YtkfbmoekghbgbaaDoorRows
import GoSem.ClaimSeven
namespace Go.Proofs.YtkfbmoekghbgbaaDoor
namespace Rows

/-- THE TIED CARD OF 'ladinglaw19.NetPlays'. -/
def netPlaysCard : Claim7 := { stood := { row := netPlaysRow, standIns := [], harness := (true, "716931e084b75afdedee15ff3e79d1292f204e88386e035e7fb9f6df5faf9dca"), looks := true }, kinds := [], alts := [], laidByText := true, laidKinds := [.handle], laidTests := true, laidLooks := .later }
def NetPlaysCardSaid : Prop := Claim7.holds Tryd.pinned (.plain (OpenSpec.ofChange netPlaysSpec)) netPlaysCard

/-- THE TIED CARD OF 'ladinglaw19.NetMost'. -/
def netMostCard : Claim7 := { stood := { row := netMostRow, standIns := [], harness := (true, "716931e084b75afdedee15ff3e79d1292f204e88386e035e7fb9f6df5faf9dca"), looks := true }, kinds := [], alts := [], laidByText := true, laidKinds := [.handle], laidTests := true, laidLooks := .later }
def NetMostCardSaid : Prop := Claim7.holds Tryd.pinned (.plain (OpenSpec.ofChange netMostSpec)) netMostCard

/-- THE TIED CARD OF 'ladinglaw18.MsgGets'. -/
def msgGetsCard : Claim7 := { stood := { row := msgGetsRow, standIns := [], harness := (true, "716931e084b75afdedee15ff3e79d1292f204e88386e035e7fb9f6df5faf9dca"), looks := true }, kinds := [], alts := [], laidByText := true, laidKinds := [.handle], laidTests := true, laidLooks := .later }
def MsgGetsCardSaid : Prop := Claim7.holds Tryd.pinned (.plain (OpenSpec.ofChange msgGetsSpec)) msgGetsCard

/-- THE TIED CARD OF 'ladinglaw18.MsgPuts'. -/
def msgPutsCard : Claim7 := { stood := { row := msgPutsRow, standIns := [], harness := (true, "716931e084b75afdedee15ff3e79d1292f204e88386e035e7fb9f6df5faf9dca"), looks := true }, kinds := [], alts := [], laidByText := true, laidKinds := [.handle], laidTests := true, laidLooks := .later }
def MsgPutsCardSaid : Prop := Claim7.holds Tryd.pinned (.plain (OpenSpec.ofChange msgPutsSpec)) msgPutsCard

/-- THE SECOND FORM's CARD OF 'ladinglaw19.NetPlays'. -/
def netPlaysUptoCard : Claim7 := { stood := { row := netPlaysUptoRow, standIns := [], harness := (true, "716931e084b75afdedee15ff3e79d1292f204e88386e035e7fb9f6df5faf9dca"), looks := true }, kinds := [], alts := [], laidByText := true, laidKinds := [.handle], laidTests := true, laidLooks := .later }
def NetPlaysUptoCardSaid : Prop := Claim7.holds Tryd.pinned (.plain (OpenSpec.upto netPlaysSpec)) netPlaysUptoCard

/-- THE SECOND FORM's CARD OF 'ladinglaw19.NetMost'. -/
def netMostUptoCard : Claim7 := { stood := { row := netMostUptoRow, standIns := [], harness := (true, "716931e084b75afdedee15ff3e79d1292f204e88386e035e7fb9f6df5faf9dca"), looks := true }, kinds := [], alts := [], laidByText := true, laidKinds := [.handle], laidTests := true, laidLooks := .later }
def NetMostUptoCardSaid : Prop := Claim7.holds Tryd.pinned (.plain (OpenSpec.upto netMostSpec)) netMostUptoCard

/-- THE SECOND FORM's CARD OF 'ladinglaw18.MsgGets'. -/
def msgGetsUptoCard : Claim7 := { stood := { row := msgGetsUptoRow, standIns := [], harness := (true, "716931e084b75afdedee15ff3e79d1292f204e88386e035e7fb9f6df5faf9dca"), looks := true }, kinds := [], alts := [], laidByText := true, laidKinds := [.handle], laidTests := true, laidLooks := .later }
def MsgGetsUptoCardSaid : Prop := Claim7.holds Tryd.pinned (.plain (OpenSpec.upto msgGetsSpec)) msgGetsUptoCard

/-- THE SECOND FORM's CARD OF 'ladinglaw18.MsgPuts'. -/
def msgPutsUptoCard : Claim7 := { stood := { row := msgPutsUptoRow, standIns := [], harness := (true, "716931e084b75afdedee15ff3e79d1292f204e88386e035e7fb9f6df5faf9dca"), looks := true }, kinds := [], alts := [], laidByText := true, laidKinds := [.handle], laidTests := true, laidLooks := .later }
def MsgPutsUptoCardSaid : Prop := Claim7.holds Tryd.pinned (.plain (OpenSpec.upto msgPutsSpec)) msgPutsUptoCard
end Rows
end Go.Proofs.YtkfbmoekghbgbaaDoor
