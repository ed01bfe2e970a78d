/-
  DERIVED. GIVEN WITH THE SEED: THE CARDS: each row of YtndnojbpapjdoaaDoorRows.lean that lists a variable, with what it lists TIED to the program's text (the seventh form; the later family's looks); each row that meets fmt, with fmt's text TOLD by the authors' own Lean function (tested against real Go, not proved from fmt's source: count such statements apart). THE CARD IS WHAT COUNTS. Prove the row's statement (the work); the ties are given (YtndnojbpapjdoaaDoorTie.lean); close each card by the builder's one call (the guide's Derived/Test/ToyasCard.lean, 'card_holds'). Laid BY PROGRAM, IN A SANDBOX (cutbox-door.mjs). By AI agents, Wed Nov 11 2026. No macro, syntax, notation, axiom, sorry.
-/
import Derived.Test.YtndnojbpapjdoaaDoorRows
import GoSem.ClaimSeven
namespace Go.Proofs.YtndnojbpapjdoaaDoor
namespace Rows

/-- THE TIED CARD OF 'jackfieldlaw03.SockLost'. -/
def sockLostCard : Claim7 := { stood := { row := sockLostRow, standIns := [], harness := (true, "c676d600e2dd4759a103726767075e8d3e3011f5256e8be4143e9cc2a80e25fb"), looks := true }, kinds := [], alts := [], laidByText := true, laidKinds := [.sentinel, .sentinel, .sentinel], laidTests := true, laidLooks := .later }
def SockLostCardSaid : Prop := Claim7.holds Tryd.pinned (.plain (OpenSpec.ofChange sockLostSpec)) sockLostCard

/-- THE TIED CARD OF 'jackfieldlaw03.SockPrefix'. -/
def sockPrefixCard : Claim7 := { stood := { row := sockPrefixRow, standIns := [], harness := (true, "c676d600e2dd4759a103726767075e8d3e3011f5256e8be4143e9cc2a80e25fb"), looks := true }, kinds := [], alts := [], laidByText := true, laidKinds := [.sentinel, .sentinel, .sentinel], laidTests := true, laidLooks := .later }
def SockPrefixCardSaid : Prop := Claim7.holds Tryd.pinned (.plain (OpenSpec.ofChange sockPrefixSpec)) sockPrefixCard

/-- THE TIED CARD OF 'jackfieldlaw03.SockEnds'. -/
def sockEndsCard : Claim7 := { stood := { row := sockEndsRow, standIns := [], harness := (true, "c676d600e2dd4759a103726767075e8d3e3011f5256e8be4143e9cc2a80e25fb"), looks := true }, kinds := [], alts := [], laidByText := true, laidKinds := [.sentinel, .sentinel, .sentinel], laidTests := true, laidLooks := .later }
def SockEndsCardSaid : Prop := Claim7.holds Tryd.pinned (.plain (OpenSpec.ofChange sockEndsSpec)) sockEndsCard

/-- THE TIED CARD OF 'jackfieldlaw03.SockRoom'. -/
def sockRoomCard : Claim7 := { stood := { row := sockRoomRow, standIns := [], harness := (true, "c676d600e2dd4759a103726767075e8d3e3011f5256e8be4143e9cc2a80e25fb"), looks := true }, kinds := [], alts := [], laidByText := true, laidKinds := [.sentinel, .sentinel, .sentinel], laidTests := true, laidLooks := .later }
def SockRoomCardSaid : Prop := Claim7.holds Tryd.pinned (.plain (OpenSpec.ofChange sockRoomSpec)) sockRoomCard

/-- THE TIED CARD OF 'jackfieldlaw03.SockPlays'. -/
def sockPlaysCard : Claim7 := { stood := { row := sockPlaysRow, standIns := [], harness := (true, "c676d600e2dd4759a103726767075e8d3e3011f5256e8be4143e9cc2a80e25fb"), looks := true }, kinds := [], alts := [], laidByText := true, laidKinds := [.sentinel, .sentinel, .sentinel, .sentinel, .sentinel, .sentinel, .sentinel, .sentinel, .sentinel, .sentinel, .sentinel, .sentinel, .sentinel, .sentinel, .sentinel, .sentinel, .sentinel, .sentinel], laidTests := true, laidLooks := .later }
def SockPlaysCardSaid : Prop := Claim7.holds Tryd.pinned (.plain (OpenSpec.ofChange sockPlaysSpec)) sockPlaysCard

/-- THE TIED CARD OF 'jackfieldlaw07.JournalAnew'. -/
def journalAnewCard : Claim7 := { stood := { row := journalAnewRow, standIns := [], harness := (true, "c676d600e2dd4759a103726767075e8d3e3011f5256e8be4143e9cc2a80e25fb"), looks := true }, kinds := [], alts := [], laidByText := true, laidKinds := [.sentinel, .sentinel, .sentinel, .sentinel, .sentinel, .sentinel, .sentinel, .sentinel, .data], laidTests := true, laidLooks := .later }
def JournalAnewCardSaid : Prop := Claim7.holds Tryd.pinned (.plain (OpenSpec.ofChange journalAnewSpec)) journalAnewCard

/-- THE TIED CARD OF 'jackfieldlaw07.JournalOpens'. -/
def journalOpensCard : Claim7 := { stood := { row := journalOpensRow, standIns := [], harness := (true, "c676d600e2dd4759a103726767075e8d3e3011f5256e8be4143e9cc2a80e25fb"), looks := true }, kinds := [], alts := [], laidByText := true, laidKinds := [.sentinel, .sentinel, .sentinel, .sentinel, .sentinel, .sentinel, .sentinel, .sentinel, .data], laidTests := true, laidLooks := .later }
def JournalOpensCardSaid : Prop := Claim7.holds Tryd.pinned (.plain (OpenSpec.ofChange journalOpensSpec)) journalOpensCard

/-- THE TIED CARD OF 'jackfieldlaw07.JournalRoom'. -/
def journalRoomCard : Claim7 := { stood := { row := journalRoomRow, standIns := [], harness := (true, "c676d600e2dd4759a103726767075e8d3e3011f5256e8be4143e9cc2a80e25fb"), looks := true }, kinds := [], alts := [], laidByText := true, laidKinds := [.sentinel, .sentinel, .sentinel, .sentinel, .sentinel, .sentinel, .sentinel, .sentinel, .data], laidTests := true, laidLooks := .later }
def JournalRoomCardSaid : Prop := Claim7.holds Tryd.pinned (.plain (OpenSpec.ofChange journalRoomSpec)) journalRoomCard

/-- THE TIED CARD OF 'jackfieldlaw07.JournalWhole'. -/
def journalWholeCard : Claim7 := { stood := { row := journalWholeRow, standIns := [], harness := (true, "c676d600e2dd4759a103726767075e8d3e3011f5256e8be4143e9cc2a80e25fb"), looks := true }, kinds := [], alts := [], laidByText := true, laidKinds := [.sentinel, .sentinel, .sentinel, .sentinel, .sentinel, .sentinel, .sentinel, .sentinel, .data], laidTests := true, laidLooks := .later }
def JournalWholeCardSaid : Prop := Claim7.holds Tryd.pinned (.plain (OpenSpec.ofChange journalWholeSpec)) journalWholeCard

/-- THE TIED CARD OF 'jackfieldlaw07.JournalCuts'. -/
def journalCutsCard : Claim7 := { stood := { row := journalCutsRow, standIns := [], harness := (true, "c676d600e2dd4759a103726767075e8d3e3011f5256e8be4143e9cc2a80e25fb"), looks := true }, kinds := [], alts := [], laidByText := true, laidKinds := [.sentinel, .sentinel, .sentinel, .sentinel, .sentinel, .sentinel, .sentinel, .sentinel, .data], laidTests := true, laidLooks := .later }
def JournalCutsCardSaid : Prop := Claim7.holds Tryd.pinned (.plain (OpenSpec.ofChange journalCutsSpec)) journalCutsCard

/-- THE SECOND FORM's CARD OF 'jackfieldlaw03.SockLost'. -/
def sockLostUptoCard : Claim7 := { stood := { row := sockLostUptoRow, standIns := [], harness := (true, "c676d600e2dd4759a103726767075e8d3e3011f5256e8be4143e9cc2a80e25fb"), looks := true }, kinds := [], alts := [], laidByText := true, laidKinds := [.sentinel, .sentinel, .sentinel], laidTests := true, laidLooks := .later }
def SockLostUptoCardSaid : Prop := Claim7.holds Tryd.pinned (.plain (OpenSpec.upto sockLostSpec)) sockLostUptoCard

/-- THE SECOND FORM's CARD OF 'jackfieldlaw03.SockPrefix'. -/
def sockPrefixUptoCard : Claim7 := { stood := { row := sockPrefixUptoRow, standIns := [], harness := (true, "c676d600e2dd4759a103726767075e8d3e3011f5256e8be4143e9cc2a80e25fb"), looks := true }, kinds := [], alts := [], laidByText := true, laidKinds := [.sentinel, .sentinel, .sentinel], laidTests := true, laidLooks := .later }
def SockPrefixUptoCardSaid : Prop := Claim7.holds Tryd.pinned (.plain (OpenSpec.upto sockPrefixSpec)) sockPrefixUptoCard

/-- THE SECOND FORM's CARD OF 'jackfieldlaw03.SockEnds'. -/
def sockEndsUptoCard : Claim7 := { stood := { row := sockEndsUptoRow, standIns := [], harness := (true, "c676d600e2dd4759a103726767075e8d3e3011f5256e8be4143e9cc2a80e25fb"), looks := true }, kinds := [], alts := [], laidByText := true, laidKinds := [.sentinel, .sentinel, .sentinel], laidTests := true, laidLooks := .later }
def SockEndsUptoCardSaid : Prop := Claim7.holds Tryd.pinned (.plain (OpenSpec.upto sockEndsSpec)) sockEndsUptoCard

/-- THE SECOND FORM's CARD OF 'jackfieldlaw03.SockRoom'. -/
def sockRoomUptoCard : Claim7 := { stood := { row := sockRoomUptoRow, standIns := [], harness := (true, "c676d600e2dd4759a103726767075e8d3e3011f5256e8be4143e9cc2a80e25fb"), looks := true }, kinds := [], alts := [], laidByText := true, laidKinds := [.sentinel, .sentinel, .sentinel], laidTests := true, laidLooks := .later }
def SockRoomUptoCardSaid : Prop := Claim7.holds Tryd.pinned (.plain (OpenSpec.upto sockRoomSpec)) sockRoomUptoCard

/-- THE SECOND FORM's CARD OF 'jackfieldlaw03.SockPlays'. -/
def sockPlaysUptoCard : Claim7 := { stood := { row := sockPlaysUptoRow, standIns := [], harness := (true, "c676d600e2dd4759a103726767075e8d3e3011f5256e8be4143e9cc2a80e25fb"), looks := true }, kinds := [], alts := [], laidByText := true, laidKinds := [.sentinel, .sentinel, .sentinel, .sentinel, .sentinel, .sentinel, .sentinel, .sentinel, .sentinel, .sentinel, .sentinel, .sentinel, .sentinel, .sentinel, .sentinel, .sentinel, .sentinel, .sentinel], laidTests := true, laidLooks := .later }
def SockPlaysUptoCardSaid : Prop := Claim7.holds Tryd.pinned (.plain (OpenSpec.upto sockPlaysSpec)) sockPlaysUptoCard

/-- THE SECOND FORM's CARD OF 'jackfieldlaw07.JournalAnew'. -/
def journalAnewUptoCard : Claim7 := { stood := { row := journalAnewUptoRow, standIns := [], harness := (true, "c676d600e2dd4759a103726767075e8d3e3011f5256e8be4143e9cc2a80e25fb"), looks := true }, kinds := [], alts := [], laidByText := true, laidKinds := [.sentinel, .sentinel, .sentinel, .sentinel, .sentinel, .sentinel, .sentinel, .sentinel, .data], laidTests := true, laidLooks := .later }
def JournalAnewUptoCardSaid : Prop := Claim7.holds Tryd.pinned (.plain (OpenSpec.upto journalAnewSpec)) journalAnewUptoCard

/-- THE SECOND FORM's CARD OF 'jackfieldlaw07.JournalOpens'. -/
def journalOpensUptoCard : Claim7 := { stood := { row := journalOpensUptoRow, standIns := [], harness := (true, "c676d600e2dd4759a103726767075e8d3e3011f5256e8be4143e9cc2a80e25fb"), looks := true }, kinds := [], alts := [], laidByText := true, laidKinds := [.sentinel, .sentinel, .sentinel, .sentinel, .sentinel, .sentinel, .sentinel, .sentinel, .data], laidTests := true, laidLooks := .later }
def JournalOpensUptoCardSaid : Prop := Claim7.holds Tryd.pinned (.plain (OpenSpec.upto journalOpensSpec)) journalOpensUptoCard

/-- THE SECOND FORM's CARD OF 'jackfieldlaw07.JournalRoom'. -/
def journalRoomUptoCard : Claim7 := { stood := { row := journalRoomUptoRow, standIns := [], harness := (true, "c676d600e2dd4759a103726767075e8d3e3011f5256e8be4143e9cc2a80e25fb"), looks := true }, kinds := [], alts := [], laidByText := true, laidKinds := [.sentinel, .sentinel, .sentinel, .sentinel, .sentinel, .sentinel, .sentinel, .sentinel, .data], laidTests := true, laidLooks := .later }
def JournalRoomUptoCardSaid : Prop := Claim7.holds Tryd.pinned (.plain (OpenSpec.upto journalRoomSpec)) journalRoomUptoCard

/-- THE SECOND FORM's CARD OF 'jackfieldlaw07.JournalWhole'. -/
def journalWholeUptoCard : Claim7 := { stood := { row := journalWholeUptoRow, standIns := [], harness := (true, "c676d600e2dd4759a103726767075e8d3e3011f5256e8be4143e9cc2a80e25fb"), looks := true }, kinds := [], alts := [], laidByText := true, laidKinds := [.sentinel, .sentinel, .sentinel, .sentinel, .sentinel, .sentinel, .sentinel, .sentinel, .data], laidTests := true, laidLooks := .later }
def JournalWholeUptoCardSaid : Prop := Claim7.holds Tryd.pinned (.plain (OpenSpec.upto journalWholeSpec)) journalWholeUptoCard

/-- THE SECOND FORM's CARD OF 'jackfieldlaw07.JournalCuts'. -/
def journalCutsUptoCard : Claim7 := { stood := { row := journalCutsUptoRow, standIns := [], harness := (true, "c676d600e2dd4759a103726767075e8d3e3011f5256e8be4143e9cc2a80e25fb"), looks := true }, kinds := [], alts := [], laidByText := true, laidKinds := [.sentinel, .sentinel, .sentinel, .sentinel, .sentinel, .sentinel, .sentinel, .sentinel, .data], laidTests := true, laidLooks := .later }
def JournalCutsUptoCardSaid : Prop := Claim7.holds Tryd.pinned (.plain (OpenSpec.upto journalCutsSpec)) journalCutsUptoCard
end Rows
end Go.Proofs.YtndnojbpapjdoaaDoor
