/-
  DERIVED. GIVEN WITH THE SEED: THE CARDS: each row of YtdhghaiifeienaaGreatDoorRows.lean that lists a variable, with what it lists TIED to the program's text (the seventh form; the later family's looks); each row that meets fmt, with fmt's text TOLD by the authors' own Lean function (tested against real Go, not proved from fmt's source: count such statements apart). THE CARD IS WHAT COUNTS. Prove the row's statement (the work); the ties are given (YtdhghaiifeienaaGreatDoorTie.lean); close each card by the builder's one call (the guide's Derived/Test/ToyasCard.lean, 'card_holds'). Laid BY PROGRAM, IN A SANDBOX (cutbox-door.mjs). By AI agents, Wed Nov 11 2026. No macro, syntax, notation, axiom, sorry.
-/
import Derived.Test.YtdhghaiifeienaaGreatDoorRows
import GoSem.ClaimSeven
namespace Go.Proofs.YtdhghaiifeienaaGreatDoor
namespace Rows

/-- THE TIED CARD OF 'godownlaw16.ClaimOlder'. -/
def claimOlderCard : Claim7 := { stood := { row := claimOlderRow, standIns := [], harness := (true, "7324d8dd0ec1e47197671a9410b7dbd30e44e3433805b53f741a49c43bee2065"), looks := false }, kinds := [], alts := [], laidByText := true, laidKinds := [.data, .data, .data, .pinned], laidTests := true, laidLooks := .later }
def ClaimOlderCardSaid : Prop := Claim7.holds Tryz.pinned (.plain (OpenSpec.ofChange claimOlderSpec)) claimOlderCard

/-- THE TIED CARD OF 'godownlaw16.ClaimApart'. -/
def claimApartCard : Claim7 := { stood := { row := claimApartRow, standIns := [], harness := (true, "7324d8dd0ec1e47197671a9410b7dbd30e44e3433805b53f741a49c43bee2065"), looks := false }, kinds := [], alts := [], laidByText := true, laidKinds := [.data, .data, .data, .pinned], laidTests := true, laidLooks := .later }
def ClaimApartCardSaid : Prop := Claim7.holds Tryz.pinned (.plain (OpenSpec.ofChange claimApartSpec)) claimApartCard

/-- THE TIED CARD OF 'godownlaw16.ClaimNil'. -/
def claimNilCard : Claim7 := { stood := { row := claimNilRow, standIns := [], harness := (true, "7324d8dd0ec1e47197671a9410b7dbd30e44e3433805b53f741a49c43bee2065"), looks := false }, kinds := [], alts := [], laidByText := true, laidKinds := [.data, .data, .data, .pinned], laidTests := true, laidLooks := .later }
def ClaimNilCardSaid : Prop := Claim7.holds Tryz.pinned (.plain (OpenSpec.ofChange claimNilSpec)) claimNilCard

/-- THE TIED CARD OF 'godownlaw16.ClaimPlays'. -/
def claimPlaysCard : Claim7 := { stood := { row := claimPlaysRow, standIns := [], harness := (true, "7324d8dd0ec1e47197671a9410b7dbd30e44e3433805b53f741a49c43bee2065"), looks := false }, kinds := [], alts := [], laidByText := true, laidKinds := [.data, .data, .data, .pinned], laidTests := true, laidLooks := .later }
def ClaimPlaysCardSaid : Prop := Claim7.holds Tryz.pinned (.plain (OpenSpec.ofChange claimPlaysSpec)) claimPlaysCard

/-- THE TIED CARD OF 'godownlaw10.DbFull'. -/
def dbFullCard : Claim7 := { stood := { row := dbFullRow, standIns := [], harness := (true, "7324d8dd0ec1e47197671a9410b7dbd30e44e3433805b53f741a49c43bee2065"), looks := false }, kinds := [], alts := [], laidByText := true, laidKinds := [.data, .data, .data, .pinned], laidTests := true, laidLooks := .later }
def DbFullCardSaid : Prop := Claim7.holds Tryz.pinned (.plain (OpenSpec.ofChange dbFullSpec)) dbFullCard

/-- THE TIED CARD OF 'godownlaw10.DbOwn'. -/
def dbOwnCard : Claim7 := { stood := { row := dbOwnRow, standIns := [], harness := (true, "7324d8dd0ec1e47197671a9410b7dbd30e44e3433805b53f741a49c43bee2065"), looks := false }, kinds := [], alts := [], laidByText := true, laidKinds := [.data, .data, .data, .pinned], laidTests := true, laidLooks := .later }
def DbOwnCardSaid : Prop := Claim7.holds Tryz.pinned (.plain (OpenSpec.ofChange dbOwnSpec)) dbOwnCard

/-- THE TIED CARD OF 'godownlaw10.DbRefers'. -/
def dbRefersCard : Claim7 := { stood := { row := dbRefersRow, standIns := [], harness := (true, "7324d8dd0ec1e47197671a9410b7dbd30e44e3433805b53f741a49c43bee2065"), looks := false }, kinds := [], alts := [], laidByText := true, laidKinds := [.data, .data, .data, .pinned], laidTests := true, laidLooks := .later }
def DbRefersCardSaid : Prop := Claim7.holds Tryz.pinned (.plain (OpenSpec.ofChange dbRefersSpec)) dbRefersCard

/-- THE TIED CARD OF 'godownlaw16.ClaimSure'. -/
def claimSureCard : Claim7 := { stood := { row := claimSureRow, standIns := [], harness := (true, "7324d8dd0ec1e47197671a9410b7dbd30e44e3433805b53f741a49c43bee2065"), looks := false }, kinds := [], alts := [], laidByText := true, laidKinds := [.data, .data, .data, .pinned], laidTests := true, laidLooks := .later }
def ClaimSureCardSaid : Prop := Claim7.holds Tryz.pinned (.plain (OpenSpec.ofChange claimSureSpec)) claimSureCard

/-- THE TIED CARD OF 'godownlaw10.DbWhole'. -/
def dbWholeCard : Claim7 := { stood := { row := dbWholeRow, standIns := [], harness := (true, "7324d8dd0ec1e47197671a9410b7dbd30e44e3433805b53f741a49c43bee2065"), looks := false }, kinds := [], alts := [], laidByText := true, laidKinds := [.data, .data, .data, .pinned], laidTests := true, laidLooks := .later }
def DbWholeCardSaid : Prop := Claim7.holds Tryz.pinned (.plain (OpenSpec.ofChange dbWholeSpec)) dbWholeCard

/-- THE TIED CARD OF 'godownlaw10.DbCloses'. -/
def dbClosesCard : Claim7 := { stood := { row := dbClosesRow, standIns := [], harness := (true, "7324d8dd0ec1e47197671a9410b7dbd30e44e3433805b53f741a49c43bee2065"), looks := false }, kinds := [], alts := [], laidByText := true, laidKinds := [.data, .data, .data, .pinned], laidTests := true, laidLooks := .later }
def DbClosesCardSaid : Prop := Claim7.holds Tryz.pinned (.plain (OpenSpec.ofChange dbClosesSpec)) dbClosesCard

/-- THE TIED CARD OF 'godownlaw10.DbPlays'. -/
def dbPlaysCard : Claim7 := { stood := { row := dbPlaysRow, standIns := [], harness := (true, "7324d8dd0ec1e47197671a9410b7dbd30e44e3433805b53f741a49c43bee2065"), looks := false }, kinds := [], alts := [], laidByText := true, laidKinds := [.data, .data, .data, .pinned], laidTests := true, laidLooks := .later }
def DbPlaysCardSaid : Prop := Claim7.holds Tryz.pinned (.plain (OpenSpec.ofChange dbPlaysSpec)) dbPlaysCard

/-- THE TIED CARD OF 'godownlaw10.DbNil'. -/
def dbNilCard : Claim7 := { stood := { row := dbNilRow, standIns := [], harness := (true, "7324d8dd0ec1e47197671a9410b7dbd30e44e3433805b53f741a49c43bee2065"), looks := false }, kinds := [], alts := [], laidByText := true, laidKinds := [.data, .data, .data, .pinned], laidTests := true, laidLooks := .later }
def DbNilCardSaid : Prop := Claim7.holds Tryz.pinned (.plain (OpenSpec.ofChange dbNilSpec)) dbNilCard

/-- THE SECOND FORM's CARD OF 'godownlaw16.ClaimOlder'. -/
def claimOlderUptoCard : Claim7 := { stood := { row := claimOlderUptoRow, standIns := [], harness := (true, "7324d8dd0ec1e47197671a9410b7dbd30e44e3433805b53f741a49c43bee2065"), looks := false }, kinds := [], alts := [], laidByText := true, laidKinds := [.data, .data, .data, .pinned], laidTests := true, laidLooks := .later }
def ClaimOlderUptoCardSaid : Prop := Claim7.holds Tryz.pinned (.plain (OpenSpec.upto claimOlderSpec)) claimOlderUptoCard

/-- THE SECOND FORM's CARD OF 'godownlaw16.ClaimApart'. -/
def claimApartUptoCard : Claim7 := { stood := { row := claimApartUptoRow, standIns := [], harness := (true, "7324d8dd0ec1e47197671a9410b7dbd30e44e3433805b53f741a49c43bee2065"), looks := false }, kinds := [], alts := [], laidByText := true, laidKinds := [.data, .data, .data, .pinned], laidTests := true, laidLooks := .later }
def ClaimApartUptoCardSaid : Prop := Claim7.holds Tryz.pinned (.plain (OpenSpec.upto claimApartSpec)) claimApartUptoCard

/-- THE SECOND FORM's CARD OF 'godownlaw16.ClaimNil'. -/
def claimNilUptoCard : Claim7 := { stood := { row := claimNilUptoRow, standIns := [], harness := (true, "7324d8dd0ec1e47197671a9410b7dbd30e44e3433805b53f741a49c43bee2065"), looks := false }, kinds := [], alts := [], laidByText := true, laidKinds := [.data, .data, .data, .pinned], laidTests := true, laidLooks := .later }
def ClaimNilUptoCardSaid : Prop := Claim7.holds Tryz.pinned (.plain (OpenSpec.upto claimNilSpec)) claimNilUptoCard

/-- THE SECOND FORM's CARD OF 'godownlaw16.ClaimPlays'. -/
def claimPlaysUptoCard : Claim7 := { stood := { row := claimPlaysUptoRow, standIns := [], harness := (true, "7324d8dd0ec1e47197671a9410b7dbd30e44e3433805b53f741a49c43bee2065"), looks := false }, kinds := [], alts := [], laidByText := true, laidKinds := [.data, .data, .data, .pinned], laidTests := true, laidLooks := .later }
def ClaimPlaysUptoCardSaid : Prop := Claim7.holds Tryz.pinned (.plain (OpenSpec.upto claimPlaysSpec)) claimPlaysUptoCard

/-- THE SECOND FORM's CARD OF 'godownlaw10.DbFull'. -/
def dbFullUptoCard : Claim7 := { stood := { row := dbFullUptoRow, standIns := [], harness := (true, "7324d8dd0ec1e47197671a9410b7dbd30e44e3433805b53f741a49c43bee2065"), looks := false }, kinds := [], alts := [], laidByText := true, laidKinds := [.data, .data, .data, .pinned], laidTests := true, laidLooks := .later }
def DbFullUptoCardSaid : Prop := Claim7.holds Tryz.pinned (.plain (OpenSpec.upto dbFullSpec)) dbFullUptoCard

/-- THE SECOND FORM's CARD OF 'godownlaw10.DbOwn'. -/
def dbOwnUptoCard : Claim7 := { stood := { row := dbOwnUptoRow, standIns := [], harness := (true, "7324d8dd0ec1e47197671a9410b7dbd30e44e3433805b53f741a49c43bee2065"), looks := false }, kinds := [], alts := [], laidByText := true, laidKinds := [.data, .data, .data, .pinned], laidTests := true, laidLooks := .later }
def DbOwnUptoCardSaid : Prop := Claim7.holds Tryz.pinned (.plain (OpenSpec.upto dbOwnSpec)) dbOwnUptoCard

/-- THE SECOND FORM's CARD OF 'godownlaw10.DbRefers'. -/
def dbRefersUptoCard : Claim7 := { stood := { row := dbRefersUptoRow, standIns := [], harness := (true, "7324d8dd0ec1e47197671a9410b7dbd30e44e3433805b53f741a49c43bee2065"), looks := false }, kinds := [], alts := [], laidByText := true, laidKinds := [.data, .data, .data, .pinned], laidTests := true, laidLooks := .later }
def DbRefersUptoCardSaid : Prop := Claim7.holds Tryz.pinned (.plain (OpenSpec.upto dbRefersSpec)) dbRefersUptoCard

/-- THE SECOND FORM's CARD OF 'godownlaw16.ClaimSure'. -/
def claimSureUptoCard : Claim7 := { stood := { row := claimSureUptoRow, standIns := [], harness := (true, "7324d8dd0ec1e47197671a9410b7dbd30e44e3433805b53f741a49c43bee2065"), looks := false }, kinds := [], alts := [], laidByText := true, laidKinds := [.data, .data, .data, .pinned], laidTests := true, laidLooks := .later }
def ClaimSureUptoCardSaid : Prop := Claim7.holds Tryz.pinned (.plain (OpenSpec.upto claimSureSpec)) claimSureUptoCard

/-- THE SECOND FORM's CARD OF 'godownlaw10.DbWhole'. -/
def dbWholeUptoCard : Claim7 := { stood := { row := dbWholeUptoRow, standIns := [], harness := (true, "7324d8dd0ec1e47197671a9410b7dbd30e44e3433805b53f741a49c43bee2065"), looks := false }, kinds := [], alts := [], laidByText := true, laidKinds := [.data, .data, .data, .pinned], laidTests := true, laidLooks := .later }
def DbWholeUptoCardSaid : Prop := Claim7.holds Tryz.pinned (.plain (OpenSpec.upto dbWholeSpec)) dbWholeUptoCard

/-- THE SECOND FORM's CARD OF 'godownlaw10.DbCloses'. -/
def dbClosesUptoCard : Claim7 := { stood := { row := dbClosesUptoRow, standIns := [], harness := (true, "7324d8dd0ec1e47197671a9410b7dbd30e44e3433805b53f741a49c43bee2065"), looks := false }, kinds := [], alts := [], laidByText := true, laidKinds := [.data, .data, .data, .pinned], laidTests := true, laidLooks := .later }
def DbClosesUptoCardSaid : Prop := Claim7.holds Tryz.pinned (.plain (OpenSpec.upto dbClosesSpec)) dbClosesUptoCard

/-- THE SECOND FORM's CARD OF 'godownlaw10.DbPlays'. -/
def dbPlaysUptoCard : Claim7 := { stood := { row := dbPlaysUptoRow, standIns := [], harness := (true, "7324d8dd0ec1e47197671a9410b7dbd30e44e3433805b53f741a49c43bee2065"), looks := false }, kinds := [], alts := [], laidByText := true, laidKinds := [.data, .data, .data, .pinned], laidTests := true, laidLooks := .later }
def DbPlaysUptoCardSaid : Prop := Claim7.holds Tryz.pinned (.plain (OpenSpec.upto dbPlaysSpec)) dbPlaysUptoCard

/-- THE SECOND FORM's CARD OF 'godownlaw10.DbNil'. -/
def dbNilUptoCard : Claim7 := { stood := { row := dbNilUptoRow, standIns := [], harness := (true, "7324d8dd0ec1e47197671a9410b7dbd30e44e3433805b53f741a49c43bee2065"), looks := false }, kinds := [], alts := [], laidByText := true, laidKinds := [.data, .data, .data, .pinned], laidTests := true, laidLooks := .later }
def DbNilUptoCardSaid : Prop := Claim7.holds Tryz.pinned (.plain (OpenSpec.upto dbNilSpec)) dbNilUptoCard
end Rows
end Go.Proofs.YtdhghaiifeienaaGreatDoor
