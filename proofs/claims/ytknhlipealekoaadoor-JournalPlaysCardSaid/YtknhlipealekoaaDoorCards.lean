/-
  DERIVED. GIVEN WITH THE SEED: THE CARDS: each row of YtknhlipealekoaaDoorRows.lean that lists a variable, with what it lists TIED to the program's text (the seventh form; the later family's looks); each row that meets fmt, with fmt's text TOLD by the authors' own Lean function (tested against real Go, not proved from fmt's source: count such statements apart). THE CARD IS WHAT COUNTS. Prove the row's statement (the work); the ties are given (YtknhlipealekoaaDoorTie.lean); close each card by the builder's one call (the guide's Derived/Test/ToyasCard.lean, 'card_holds'). Laid BY PROGRAM, IN A SANDBOX (cutbox-door.mjs). By AI agents, Wed Nov 11 2026. No macro, syntax, notation, axiom, sorry.
-/
import Derived.Test.YtknhlipealekoaaDoorRows
import GoSem.ClaimSeven
namespace Go.Proofs.YtknhlipealekoaaDoor
namespace Rows

/-- THE TIED CARD OF 'ladinglaw14.DiskFuses'. -/
def diskFusesCard : Claim7 := { stood := { row := diskFusesRow, standIns := [], harness := (true, "8f74a181da50fcbf301b58159e62d60f848b30bc9720662d35d9e7109ad7c5c2"), looks := true }, kinds := [], alts := [], laidByText := true, laidKinds := [.handle], laidTests := true, laidLooks := .later }
def DiskFusesCardSaid : Prop := Claim7.holds Tryd.pinned (.plain (OpenSpec.ofChange diskFusesSpec)) diskFusesCard

/-- THE TIED CARD OF 'ladinglaw14.DiskLasts'. -/
def diskLastsCard : Claim7 := { stood := { row := diskLastsRow, standIns := [], harness := (true, "8f74a181da50fcbf301b58159e62d60f848b30bc9720662d35d9e7109ad7c5c2"), looks := true }, kinds := [], alts := [], laidByText := true, laidKinds := [.handle], laidTests := true, laidLooks := .later }
def DiskLastsCardSaid : Prop := Claim7.holds Tryd.pinned (.plain (OpenSpec.ofChange diskLastsSpec)) diskLastsCard

/-- THE TIED CARD OF 'ladinglaw14.DiskKeeps'. -/
def diskKeepsCard : Claim7 := { stood := { row := diskKeepsRow, standIns := [], harness := (true, "8f74a181da50fcbf301b58159e62d60f848b30bc9720662d35d9e7109ad7c5c2"), looks := true }, kinds := [], alts := [], laidByText := true, laidKinds := [.handle], laidTests := true, laidLooks := .later }
def DiskKeepsCardSaid : Prop := Claim7.holds Tryd.pinned (.plain (OpenSpec.ofChange diskKeepsSpec)) diskKeepsCard

/-- THE TIED CARD OF 'ladinglaw14.DiskBounds'. -/
def diskBoundsCard : Claim7 := { stood := { row := diskBoundsRow, standIns := [], harness := (true, "8f74a181da50fcbf301b58159e62d60f848b30bc9720662d35d9e7109ad7c5c2"), looks := true }, kinds := [], alts := [], laidByText := true, laidKinds := [.handle], laidTests := true, laidLooks := .later }
def DiskBoundsCardSaid : Prop := Claim7.holds Tryd.pinned (.plain (OpenSpec.ofChange diskBoundsSpec)) diskBoundsCard

/-- THE TIED CARD OF 'ladinglaw15.JournalPlays'. -/
def journalPlaysCard : Claim7 := { stood := { row := journalPlaysRow, standIns := [], harness := (true, "8f74a181da50fcbf301b58159e62d60f848b30bc9720662d35d9e7109ad7c5c2"), looks := true }, kinds := [], alts := [], laidByText := true, laidKinds := [.handle], laidTests := true, laidLooks := .later }
def JournalPlaysCardSaid : Prop := Claim7.holds Tryd.pinned (.plain (OpenSpec.ofChange journalPlaysSpec)) journalPlaysCard

/-- THE TIED CARD OF 'ladinglaw15.JournalLast'. -/
def journalLastCard : Claim7 := { stood := { row := journalLastRow, standIns := [], harness := (true, "8f74a181da50fcbf301b58159e62d60f848b30bc9720662d35d9e7109ad7c5c2"), looks := true }, kinds := [], alts := [], laidByText := true, laidKinds := [.handle], laidTests := true, laidLooks := .later }
def JournalLastCardSaid : Prop := Claim7.holds Tryd.pinned (.plain (OpenSpec.ofChange journalLastSpec)) journalLastCard

/-- THE SECOND FORM's CARD OF 'ladinglaw14.DiskFuses'. -/
def diskFusesUptoCard : Claim7 := { stood := { row := diskFusesUptoRow, standIns := [], harness := (true, "8f74a181da50fcbf301b58159e62d60f848b30bc9720662d35d9e7109ad7c5c2"), looks := true }, kinds := [], alts := [], laidByText := true, laidKinds := [.handle], laidTests := true, laidLooks := .later }
def DiskFusesUptoCardSaid : Prop := Claim7.holds Tryd.pinned (.plain (OpenSpec.upto diskFusesSpec)) diskFusesUptoCard

/-- THE SECOND FORM's CARD OF 'ladinglaw14.DiskLasts'. -/
def diskLastsUptoCard : Claim7 := { stood := { row := diskLastsUptoRow, standIns := [], harness := (true, "8f74a181da50fcbf301b58159e62d60f848b30bc9720662d35d9e7109ad7c5c2"), looks := true }, kinds := [], alts := [], laidByText := true, laidKinds := [.handle], laidTests := true, laidLooks := .later }
def DiskLastsUptoCardSaid : Prop := Claim7.holds Tryd.pinned (.plain (OpenSpec.upto diskLastsSpec)) diskLastsUptoCard

/-- THE SECOND FORM's CARD OF 'ladinglaw14.DiskKeeps'. -/
def diskKeepsUptoCard : Claim7 := { stood := { row := diskKeepsUptoRow, standIns := [], harness := (true, "8f74a181da50fcbf301b58159e62d60f848b30bc9720662d35d9e7109ad7c5c2"), looks := true }, kinds := [], alts := [], laidByText := true, laidKinds := [.handle], laidTests := true, laidLooks := .later }
def DiskKeepsUptoCardSaid : Prop := Claim7.holds Tryd.pinned (.plain (OpenSpec.upto diskKeepsSpec)) diskKeepsUptoCard

/-- THE SECOND FORM's CARD OF 'ladinglaw14.DiskBounds'. -/
def diskBoundsUptoCard : Claim7 := { stood := { row := diskBoundsUptoRow, standIns := [], harness := (true, "8f74a181da50fcbf301b58159e62d60f848b30bc9720662d35d9e7109ad7c5c2"), looks := true }, kinds := [], alts := [], laidByText := true, laidKinds := [.handle], laidTests := true, laidLooks := .later }
def DiskBoundsUptoCardSaid : Prop := Claim7.holds Tryd.pinned (.plain (OpenSpec.upto diskBoundsSpec)) diskBoundsUptoCard

/-- THE SECOND FORM's CARD OF 'ladinglaw15.JournalPlays'. -/
def journalPlaysUptoCard : Claim7 := { stood := { row := journalPlaysUptoRow, standIns := [], harness := (true, "8f74a181da50fcbf301b58159e62d60f848b30bc9720662d35d9e7109ad7c5c2"), looks := true }, kinds := [], alts := [], laidByText := true, laidKinds := [.handle], laidTests := true, laidLooks := .later }
def JournalPlaysUptoCardSaid : Prop := Claim7.holds Tryd.pinned (.plain (OpenSpec.upto journalPlaysSpec)) journalPlaysUptoCard

/-- THE SECOND FORM's CARD OF 'ladinglaw15.JournalLast'. -/
def journalLastUptoCard : Claim7 := { stood := { row := journalLastUptoRow, standIns := [], harness := (true, "8f74a181da50fcbf301b58159e62d60f848b30bc9720662d35d9e7109ad7c5c2"), looks := true }, kinds := [], alts := [], laidByText := true, laidKinds := [.handle], laidTests := true, laidLooks := .later }
def JournalLastUptoCardSaid : Prop := Claim7.holds Tryd.pinned (.plain (OpenSpec.upto journalLastSpec)) journalLastUptoCard
end Rows
end Go.Proofs.YtknhlipealekoaaDoor
