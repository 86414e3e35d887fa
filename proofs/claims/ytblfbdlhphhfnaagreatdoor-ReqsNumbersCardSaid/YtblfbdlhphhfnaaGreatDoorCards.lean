/-
  DERIVED. GIVEN WITH THE SEED: THE CARDS: each row of YtblfbdlhphhfnaaGreatDoorRows.lean that lists a variable, with what it lists TIED to the program's text (the seventh form; the later family's looks); each row that meets fmt, with fmt's text TOLD by the authors' own Lean function (tested against real Go, not proved from fmt's source: count such statements apart). THE CARD IS WHAT COUNTS. Prove the row's statement (the work); the ties are given (YtblfbdlhphhfnaaGreatDoorTie.lean); close each card by the builder's one call (the guide's Derived/Test/ToyasCard.lean, 'card_holds'). Laid BY PROGRAM, IN A SANDBOX (cutbox-door.mjs). By AI agents, Wed Nov 11 2026. No macro, syntax, notation, axiom, sorry.
-/
import Derived.Test.YtblfbdlhphhfnaaGreatDoorRows
import GoSem.ClaimSeven
namespace Go.Proofs.YtblfbdlhphhfnaaGreatDoor
namespace Rows

/-- THE TIED CARD OF 'sutlerlaw04.ReqsNumbers'. -/
def reqsNumbersCard : Claim7 := { stood := { row := reqsNumbersRow, standIns := [], harness := (true, "938fe110a518a6c7fedcfcacbd526dbe86ed6ee38dea7d1aa9b5a9b4667445a8"), looks := true }, kinds := [], alts := [], laidByText := true, laidKinds := [.data, .data, .data, .sentinel, .sentinel], laidTests := true, laidLooks := .later }
def ReqsNumbersCardSaid : Prop := Claim7.holds Tryz.pinned (.plain (OpenSpec.ofChange reqsNumbersSpec)) reqsNumbersCard

/-- THE TIED CARD OF 'sutlerlaw04.ReqsSets'. -/
def reqsSetsCard : Claim7 := { stood := { row := reqsSetsRow, standIns := [], harness := (true, "938fe110a518a6c7fedcfcacbd526dbe86ed6ee38dea7d1aa9b5a9b4667445a8"), looks := true }, kinds := [], alts := [], laidByText := true, laidKinds := [.data, .data, .data, .sentinel, .sentinel], laidTests := true, laidLooks := .later }
def ReqsSetsCardSaid : Prop := Claim7.holds Tryz.pinned (.plain (OpenSpec.ofChange reqsSetsSpec)) reqsSetsCard

/-- THE TIED CARD OF 'sutlerlaw04.ReqsCan'. -/
def reqsCanCard : Claim7 := { stood := { row := reqsCanRow, standIns := [], harness := (true, "938fe110a518a6c7fedcfcacbd526dbe86ed6ee38dea7d1aa9b5a9b4667445a8"), looks := true }, kinds := [], alts := [], laidByText := true, laidKinds := [.data, .data, .data, .sentinel, .sentinel], laidTests := true, laidLooks := .later }
def ReqsCanCardSaid : Prop := Claim7.holds Tryz.pinned (.plain (OpenSpec.ofChange reqsCanSpec)) reqsCanCard

/-- THE TIED CARD OF 'sutlerlaw04.ReqsOrder'. -/
def reqsOrderCard : Claim7 := { stood := { row := reqsOrderRow, standIns := [], harness := (true, "938fe110a518a6c7fedcfcacbd526dbe86ed6ee38dea7d1aa9b5a9b4667445a8"), looks := true }, kinds := [], alts := [], laidByText := true, laidKinds := [.data, .data, .data, .sentinel, .sentinel], laidTests := true, laidLooks := .later }
def ReqsOrderCardSaid : Prop := Claim7.holds Tryz.pinned (.plain (OpenSpec.ofChange reqsOrderSpec)) reqsOrderCard

/-- THE SECOND FORM's CARD OF 'sutlerlaw04.ReqsNumbers'. -/
def reqsNumbersUptoCard : Claim7 := { stood := { row := reqsNumbersUptoRow, standIns := [], harness := (true, "938fe110a518a6c7fedcfcacbd526dbe86ed6ee38dea7d1aa9b5a9b4667445a8"), looks := true }, kinds := [], alts := [], laidByText := true, laidKinds := [.data, .data, .data, .sentinel, .sentinel], laidTests := true, laidLooks := .later }
def ReqsNumbersUptoCardSaid : Prop := Claim7.holds Tryz.pinned (.plain (OpenSpec.upto reqsNumbersSpec)) reqsNumbersUptoCard

/-- THE SECOND FORM's CARD OF 'sutlerlaw04.ReqsSets'. -/
def reqsSetsUptoCard : Claim7 := { stood := { row := reqsSetsUptoRow, standIns := [], harness := (true, "938fe110a518a6c7fedcfcacbd526dbe86ed6ee38dea7d1aa9b5a9b4667445a8"), looks := true }, kinds := [], alts := [], laidByText := true, laidKinds := [.data, .data, .data, .sentinel, .sentinel], laidTests := true, laidLooks := .later }
def ReqsSetsUptoCardSaid : Prop := Claim7.holds Tryz.pinned (.plain (OpenSpec.upto reqsSetsSpec)) reqsSetsUptoCard

/-- THE SECOND FORM's CARD OF 'sutlerlaw04.ReqsCan'. -/
def reqsCanUptoCard : Claim7 := { stood := { row := reqsCanUptoRow, standIns := [], harness := (true, "938fe110a518a6c7fedcfcacbd526dbe86ed6ee38dea7d1aa9b5a9b4667445a8"), looks := true }, kinds := [], alts := [], laidByText := true, laidKinds := [.data, .data, .data, .sentinel, .sentinel], laidTests := true, laidLooks := .later }
def ReqsCanUptoCardSaid : Prop := Claim7.holds Tryz.pinned (.plain (OpenSpec.upto reqsCanSpec)) reqsCanUptoCard

/-- THE SECOND FORM's CARD OF 'sutlerlaw04.ReqsOrder'. -/
def reqsOrderUptoCard : Claim7 := { stood := { row := reqsOrderUptoRow, standIns := [], harness := (true, "938fe110a518a6c7fedcfcacbd526dbe86ed6ee38dea7d1aa9b5a9b4667445a8"), looks := true }, kinds := [], alts := [], laidByText := true, laidKinds := [.data, .data, .data, .sentinel, .sentinel], laidTests := true, laidLooks := .later }
def ReqsOrderUptoCardSaid : Prop := Claim7.holds Tryz.pinned (.plain (OpenSpec.upto reqsOrderSpec)) reqsOrderUptoCard
end Rows
end Go.Proofs.YtblfbdlhphhfnaaGreatDoor
