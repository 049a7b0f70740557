/-
  DERIVED. GIVEN WITH THE SEED: THE CARDS: each row of YtbibchinimhamaaDoorRows.lean that lists a variable, with what it lists TIED to the program's text (the seventh form; the later family's looks); each row that meets fmt, with fmt's text TOLD by the authors' own Lean function (tested against real Go, not proved from fmt's source: count such statements apart). THE CARD IS WHAT COUNTS. Prove the row's statement (the work); the ties are given (YtbibchinimhamaaDoorTie.lean); close each card by the builder's one call (the guide's Derived/Test/ToyasCard.lean, 'card_holds'). Laid BY PROGRAM, IN A SANDBOX (cutbox-door.mjs). By AI agents, Wed Nov 11 2026. No macro, syntax, notation, axiom, sorry.
-/
import Derived.Test.YtbibchinimhamaaDoorRows
import GoSem.ClaimSeven
namespace Go.Proofs.YtbibchinimhamaaDoor
namespace Rows

/-- THE TIED CARD OF 'wainscotlaw04.KeysAfter'. -/
def keysAfterCard : Claim7 := { stood := { row := keysAfterRow, standIns := [], harness := (true, "1f589bdaaba8bd21182694b20e632a05823852513cae5a0ec5e9b061b107b226"), looks := false }, kinds := [], alts := [], laidByText := true, laidKinds := [.data, .pinned], laidTests := true, laidLooks := .later }
def KeysAfterCardSaid : Prop := Claim7.holds Tryd.pinned (.plain (OpenSpec.ofChange keysAfterSpec)) keysAfterCard

/-- THE TIED CARD OF 'wainscotlaw04.KeysKey'. -/
def keysKeyCard : Claim7 := { stood := { row := keysKeyRow, standIns := [], harness := (true, "1f589bdaaba8bd21182694b20e632a05823852513cae5a0ec5e9b061b107b226"), looks := false }, kinds := [], alts := [], laidByText := true, laidKinds := [.data, .pinned], laidTests := true, laidLooks := .later }
def KeysKeyCardSaid : Prop := Claim7.holds Tryd.pinned (.plain (OpenSpec.ofChange keysKeySpec)) keysKeyCard

/-- THE TIED CARD OF 'wainscotlaw04.KeysRow'. -/
def keysRowCard : Claim7 := { stood := { row := keysRowRow, standIns := [], harness := (true, "1f589bdaaba8bd21182694b20e632a05823852513cae5a0ec5e9b061b107b226"), looks := false }, kinds := [], alts := [], laidByText := true, laidKinds := [.data, .pinned], laidTests := true, laidLooks := .later }
def KeysRowCardSaid : Prop := Claim7.holds Tryd.pinned (.plain (OpenSpec.ofChange keysRowSpec)) keysRowCard

/-- THE TIED CARD OF 'wainscotlaw04.KeysOrder'. -/
def keysOrderCard : Claim7 := { stood := { row := keysOrderRow, standIns := [], harness := (true, "1f589bdaaba8bd21182694b20e632a05823852513cae5a0ec5e9b061b107b226"), looks := false }, kinds := [], alts := [], laidByText := true, laidKinds := [.data, .pinned], laidTests := true, laidLooks := .later }
def KeysOrderCardSaid : Prop := Claim7.holds Tryd.pinned (.plain (OpenSpec.ofChange keysOrderSpec)) keysOrderCard

/-- THE SECOND FORM's CARD OF 'wainscotlaw04.KeysAfter'. -/
def keysAfterUptoCard : Claim7 := { stood := { row := keysAfterUptoRow, standIns := [], harness := (true, "1f589bdaaba8bd21182694b20e632a05823852513cae5a0ec5e9b061b107b226"), looks := false }, kinds := [], alts := [], laidByText := true, laidKinds := [.data, .pinned], laidTests := true, laidLooks := .later }
def KeysAfterUptoCardSaid : Prop := Claim7.holds Tryd.pinned (.plain (OpenSpec.upto keysAfterSpec)) keysAfterUptoCard

/-- THE SECOND FORM's CARD OF 'wainscotlaw04.KeysKey'. -/
def keysKeyUptoCard : Claim7 := { stood := { row := keysKeyUptoRow, standIns := [], harness := (true, "1f589bdaaba8bd21182694b20e632a05823852513cae5a0ec5e9b061b107b226"), looks := false }, kinds := [], alts := [], laidByText := true, laidKinds := [.data, .pinned], laidTests := true, laidLooks := .later }
def KeysKeyUptoCardSaid : Prop := Claim7.holds Tryd.pinned (.plain (OpenSpec.upto keysKeySpec)) keysKeyUptoCard

/-- THE SECOND FORM's CARD OF 'wainscotlaw04.KeysRow'. -/
def keysRowUptoCard : Claim7 := { stood := { row := keysRowUptoRow, standIns := [], harness := (true, "1f589bdaaba8bd21182694b20e632a05823852513cae5a0ec5e9b061b107b226"), looks := false }, kinds := [], alts := [], laidByText := true, laidKinds := [.data, .pinned], laidTests := true, laidLooks := .later }
def KeysRowUptoCardSaid : Prop := Claim7.holds Tryd.pinned (.plain (OpenSpec.upto keysRowSpec)) keysRowUptoCard

/-- THE SECOND FORM's CARD OF 'wainscotlaw04.KeysOrder'. -/
def keysOrderUptoCard : Claim7 := { stood := { row := keysOrderUptoRow, standIns := [], harness := (true, "1f589bdaaba8bd21182694b20e632a05823852513cae5a0ec5e9b061b107b226"), looks := false }, kinds := [], alts := [], laidByText := true, laidKinds := [.data, .pinned], laidTests := true, laidLooks := .later }
def KeysOrderUptoCardSaid : Prop := Claim7.holds Tryd.pinned (.plain (OpenSpec.upto keysOrderSpec)) keysOrderUptoCard
end Rows
end Go.Proofs.YtbibchinimhamaaDoor
