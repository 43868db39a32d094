/-
  DERIVED. GIVEN WITH THE SEED: THE CARDS: each row of YtpnbehgkbfhacaaDoorRows.lean that lists a variable, with what it lists TIED to the program's text (the seventh form; the later family's looks); each row that meets fmt, with fmt's text TOLD by the authors' own Lean function (tested against real Go, not proved from fmt's source: count such statements apart). THE CARD IS WHAT COUNTS. Prove the row's statement (the work); the ties are given (YtpnbehgkbfhacaaDoorTie.lean); close each card by the builder's one call (the guide's Derived/Test/ToyasCard.lean, 'card_holds'). Laid BY PROGRAM, IN A SANDBOX (cutbox-door.mjs). By AI agents, Wed Nov 11 2026. No macro, syntax, notation, axiom, sorry.
-/
import Derived.Test.YtpnbehgkbfhacaaDoorRows
import GoSem.ClaimSeven
namespace Go.Proofs.YtpnbehgkbfhacaaDoor
namespace Rows

/-- THE TIED CARD OF 'ladinglaw01.OctetFixed'. -/
def octetFixedCard : Claim7 := { stood := { row := octetFixedRow, standIns := [], harness := (true, "843600f912eaf8186d21bd7d911816992297e463a9fa5a309cfd698c2f9818e1"), looks := true }, kinds := [], alts := [], laidByText := true, laidKinds := [.handle], laidTests := true, laidLooks := .later }
def OctetFixedCardSaid : Prop := Claim7.holds Tryd.pinned (.plain (OpenSpec.ofChange octetFixedSpec)) octetFixedCard

/-- THE TIED CARD OF 'ladinglaw01.OctetShort'. -/
def octetShortCard : Claim7 := { stood := { row := octetShortRow, standIns := [], harness := (true, "843600f912eaf8186d21bd7d911816992297e463a9fa5a309cfd698c2f9818e1"), looks := true }, kinds := [], alts := [], laidByText := true, laidKinds := [.handle], laidTests := true, laidLooks := .later }
def OctetShortCardSaid : Prop := Claim7.holds Tryd.pinned (.plain (OpenSpec.ofChange octetShortSpec)) octetShortCard

/-- THE TIED CARD OF 'ladinglaw03.FrameSeals'. -/
def frameSealsCard : Claim7 := { stood := { row := frameSealsRow, standIns := [], harness := (true, "843600f912eaf8186d21bd7d911816992297e463a9fa5a309cfd698c2f9818e1"), looks := true }, kinds := [], alts := [], laidByText := true, laidKinds := [.handle], laidTests := true, laidLooks := .later }
def FrameSealsCardSaid : Prop := Claim7.holds Tryd.pinned (.plain (OpenSpec.ofChange frameSealsSpec)) frameSealsCard

/-- THE TIED CARD OF 'ladinglaw01.OctetRows'. -/
def octetRowsCard : Claim7 := { stood := { row := octetRowsRow, standIns := [], harness := (true, "843600f912eaf8186d21bd7d911816992297e463a9fa5a309cfd698c2f9818e1"), looks := true }, kinds := [], alts := [], laidByText := true, laidKinds := [.handle], laidTests := true, laidLooks := .later }
def OctetRowsCardSaid : Prop := Claim7.holds Tryd.pinned (.plain (OpenSpec.ofChange octetRowsSpec)) octetRowsCard

/-- THE TIED CARD OF 'ladinglaw06.GapGets'. -/
def gapGetsCard : Claim7 := { stood := { row := gapGetsRow, standIns := [], harness := (true, "843600f912eaf8186d21bd7d911816992297e463a9fa5a309cfd698c2f9818e1"), looks := true }, kinds := [], alts := [], laidByText := true, laidKinds := [.handle], laidTests := true, laidLooks := .later }
def GapGetsCardSaid : Prop := Claim7.holds Tryd.pinned (.plain (OpenSpec.ofChange gapGetsSpec)) gapGetsCard

/-- THE TIED CARD OF 'ladinglaw06.GapPuts'. -/
def gapPutsCard : Claim7 := { stood := { row := gapPutsRow, standIns := [], harness := (true, "843600f912eaf8186d21bd7d911816992297e463a9fa5a309cfd698c2f9818e1"), looks := true }, kinds := [], alts := [], laidByText := true, laidKinds := [.handle], laidTests := true, laidLooks := .later }
def GapPutsCardSaid : Prop := Claim7.holds Tryd.pinned (.plain (OpenSpec.ofChange gapPutsSpec)) gapPutsCard

/-- THE SECOND FORM's CARD OF 'ladinglaw01.OctetFixed'. -/
def octetFixedUptoCard : Claim7 := { stood := { row := octetFixedUptoRow, standIns := [], harness := (true, "843600f912eaf8186d21bd7d911816992297e463a9fa5a309cfd698c2f9818e1"), looks := true }, kinds := [], alts := [], laidByText := true, laidKinds := [.handle], laidTests := true, laidLooks := .later }
def OctetFixedUptoCardSaid : Prop := Claim7.holds Tryd.pinned (.plain (OpenSpec.upto octetFixedSpec)) octetFixedUptoCard

/-- THE SECOND FORM's CARD OF 'ladinglaw01.OctetShort'. -/
def octetShortUptoCard : Claim7 := { stood := { row := octetShortUptoRow, standIns := [], harness := (true, "843600f912eaf8186d21bd7d911816992297e463a9fa5a309cfd698c2f9818e1"), looks := true }, kinds := [], alts := [], laidByText := true, laidKinds := [.handle], laidTests := true, laidLooks := .later }
def OctetShortUptoCardSaid : Prop := Claim7.holds Tryd.pinned (.plain (OpenSpec.upto octetShortSpec)) octetShortUptoCard

/-- THE SECOND FORM's CARD OF 'ladinglaw03.FrameSeals'. -/
def frameSealsUptoCard : Claim7 := { stood := { row := frameSealsUptoRow, standIns := [], harness := (true, "843600f912eaf8186d21bd7d911816992297e463a9fa5a309cfd698c2f9818e1"), looks := true }, kinds := [], alts := [], laidByText := true, laidKinds := [.handle], laidTests := true, laidLooks := .later }
def FrameSealsUptoCardSaid : Prop := Claim7.holds Tryd.pinned (.plain (OpenSpec.upto frameSealsSpec)) frameSealsUptoCard

/-- THE SECOND FORM's CARD OF 'ladinglaw01.OctetRows'. -/
def octetRowsUptoCard : Claim7 := { stood := { row := octetRowsUptoRow, standIns := [], harness := (true, "843600f912eaf8186d21bd7d911816992297e463a9fa5a309cfd698c2f9818e1"), looks := true }, kinds := [], alts := [], laidByText := true, laidKinds := [.handle], laidTests := true, laidLooks := .later }
def OctetRowsUptoCardSaid : Prop := Claim7.holds Tryd.pinned (.plain (OpenSpec.upto octetRowsSpec)) octetRowsUptoCard

/-- THE SECOND FORM's CARD OF 'ladinglaw06.GapGets'. -/
def gapGetsUptoCard : Claim7 := { stood := { row := gapGetsUptoRow, standIns := [], harness := (true, "843600f912eaf8186d21bd7d911816992297e463a9fa5a309cfd698c2f9818e1"), looks := true }, kinds := [], alts := [], laidByText := true, laidKinds := [.handle], laidTests := true, laidLooks := .later }
def GapGetsUptoCardSaid : Prop := Claim7.holds Tryd.pinned (.plain (OpenSpec.upto gapGetsSpec)) gapGetsUptoCard

/-- THE SECOND FORM's CARD OF 'ladinglaw06.GapPuts'. -/
def gapPutsUptoCard : Claim7 := { stood := { row := gapPutsUptoRow, standIns := [], harness := (true, "843600f912eaf8186d21bd7d911816992297e463a9fa5a309cfd698c2f9818e1"), looks := true }, kinds := [], alts := [], laidByText := true, laidKinds := [.handle], laidTests := true, laidLooks := .later }
def GapPutsUptoCardSaid : Prop := Claim7.holds Tryd.pinned (.plain (OpenSpec.upto gapPutsSpec)) gapPutsUptoCard
end Rows
end Go.Proofs.YtpnbehgkbfhacaaDoor
