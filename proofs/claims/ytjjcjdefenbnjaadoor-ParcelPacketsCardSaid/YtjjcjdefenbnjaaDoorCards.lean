/-
  DERIVED. GIVEN WITH THE SEED: THE CARDS: each row of YtjjcjdefenbnjaaDoorRows.lean that lists a variable, with what it lists TIED to the program's text (the seventh form; the later family's looks); each row that meets fmt, with fmt's text TOLD by the authors' own Lean function (tested against real Go, not proved from fmt's source: count such statements apart). THE CARD IS WHAT COUNTS. Prove the row's statement (the work); the ties are given (YtjjcjdefenbnjaaDoorTie.lean); close each card by the builder's one call (the guide's Derived/Test/ToyasCard.lean, 'card_holds'). Laid BY PROGRAM, IN A SANDBOX (cutbox-door.mjs). By AI agents, Wed Nov 11 2026. No macro, syntax, notation, axiom, sorry.
-/
import Derived.Test.YtjjcjdefenbnjaaDoorRows
import GoSem.ClaimSeven
namespace Go.Proofs.YtjjcjdefenbnjaaDoor
namespace Rows

/-- THE TIED CARD OF 'ferrymanlaw01.ShaSums'. -/
def shaSumsCard : Claim7 := { stood := { row := shaSumsRow, standIns := [], harness := (true, "c69ab15e16d640825144b249462c68abdf4fdf2a6320636c844aa988af002463"), looks := false }, kinds := [], alts := [], laidByText := true, laidKinds := [.data, .data], laidTests := true, laidLooks := .later }
def ShaSumsCardSaid : Prop := Claim7.holds Tryd.pinned (.plain (OpenSpec.ofChange shaSumsSpec)) shaSumsCard

/-- THE TIED CARD OF 'ferrymanlaw01.ShaLong'. -/
def shaLongCard : Claim7 := { stood := { row := shaLongRow, standIns := [], harness := (true, "c69ab15e16d640825144b249462c68abdf4fdf2a6320636c844aa988af002463"), looks := false }, kinds := [], alts := [], laidByText := true, laidKinds := [.data, .data], laidTests := true, laidLooks := .later }
def ShaLongCardSaid : Prop := Claim7.holds Tryd.pinned (.plain (OpenSpec.ofChange shaLongSpec)) shaLongCard

/-- THE TIED CARD OF 'ferrymanlaw01.ShaCuts'. -/
def shaCutsCard : Claim7 := { stood := { row := shaCutsRow, standIns := [], harness := (true, "c69ab15e16d640825144b249462c68abdf4fdf2a6320636c844aa988af002463"), looks := false }, kinds := [], alts := [], laidByText := true, laidKinds := [.data], laidTests := true, laidLooks := .later }
def ShaCutsCardSaid : Prop := Claim7.holds Tryd.pinned (.plain (OpenSpec.ofChange shaCutsSpec)) shaCutsCard

/-- THE TIED CARD OF 'ferrymanlaw01.ShaSame'. -/
def shaSameCard : Claim7 := { stood := { row := shaSameRow, standIns := [], harness := (true, "c69ab15e16d640825144b249462c68abdf4fdf2a6320636c844aa988af002463"), looks := false }, kinds := [], alts := [], laidByText := true, laidKinds := [.data, .data], laidTests := true, laidLooks := .later }
def ShaSameCardSaid : Prop := Claim7.holds Tryd.pinned (.plain (OpenSpec.ofChange shaSameSpec)) shaSameCard

/-- THE TIED CARD OF 'ferrymanlaw04.ParcelPackets'. -/
def parcelPacketsCard : Claim7 := { stood := { row := parcelPacketsRow, standIns := [], harness := (true, "c69ab15e16d640825144b249462c68abdf4fdf2a6320636c844aa988af002463"), looks := false }, kinds := [], alts := [], laidByText := true, laidKinds := [.data, .data], laidTests := true, laidLooks := .later }
def ParcelPacketsCardSaid : Prop := Claim7.holds Tryd.pinned (.plain (OpenSpec.ofChange parcelPacketsSpec)) parcelPacketsCard

/-- THE SECOND FORM's CARD OF 'ferrymanlaw01.ShaSums'. -/
def shaSumsUptoCard : Claim7 := { stood := { row := shaSumsUptoRow, standIns := [], harness := (true, "c69ab15e16d640825144b249462c68abdf4fdf2a6320636c844aa988af002463"), looks := false }, kinds := [], alts := [], laidByText := true, laidKinds := [.data, .data], laidTests := true, laidLooks := .later }
def ShaSumsUptoCardSaid : Prop := Claim7.holds Tryd.pinned (.plain (OpenSpec.upto shaSumsSpec)) shaSumsUptoCard

/-- THE SECOND FORM's CARD OF 'ferrymanlaw01.ShaLong'. -/
def shaLongUptoCard : Claim7 := { stood := { row := shaLongUptoRow, standIns := [], harness := (true, "c69ab15e16d640825144b249462c68abdf4fdf2a6320636c844aa988af002463"), looks := false }, kinds := [], alts := [], laidByText := true, laidKinds := [.data, .data], laidTests := true, laidLooks := .later }
def ShaLongUptoCardSaid : Prop := Claim7.holds Tryd.pinned (.plain (OpenSpec.upto shaLongSpec)) shaLongUptoCard

/-- THE SECOND FORM's CARD OF 'ferrymanlaw01.ShaCuts'. -/
def shaCutsUptoCard : Claim7 := { stood := { row := shaCutsUptoRow, standIns := [], harness := (true, "c69ab15e16d640825144b249462c68abdf4fdf2a6320636c844aa988af002463"), looks := false }, kinds := [], alts := [], laidByText := true, laidKinds := [.data], laidTests := true, laidLooks := .later }
def ShaCutsUptoCardSaid : Prop := Claim7.holds Tryd.pinned (.plain (OpenSpec.upto shaCutsSpec)) shaCutsUptoCard

/-- THE SECOND FORM's CARD OF 'ferrymanlaw01.ShaSame'. -/
def shaSameUptoCard : Claim7 := { stood := { row := shaSameUptoRow, standIns := [], harness := (true, "c69ab15e16d640825144b249462c68abdf4fdf2a6320636c844aa988af002463"), looks := false }, kinds := [], alts := [], laidByText := true, laidKinds := [.data, .data], laidTests := true, laidLooks := .later }
def ShaSameUptoCardSaid : Prop := Claim7.holds Tryd.pinned (.plain (OpenSpec.upto shaSameSpec)) shaSameUptoCard

/-- THE SECOND FORM's CARD OF 'ferrymanlaw04.ParcelPackets'. -/
def parcelPacketsUptoCard : Claim7 := { stood := { row := parcelPacketsUptoRow, standIns := [], harness := (true, "c69ab15e16d640825144b249462c68abdf4fdf2a6320636c844aa988af002463"), looks := false }, kinds := [], alts := [], laidByText := true, laidKinds := [.data, .data], laidTests := true, laidLooks := .later }
def ParcelPacketsUptoCardSaid : Prop := Claim7.holds Tryd.pinned (.plain (OpenSpec.upto parcelPacketsSpec)) parcelPacketsUptoCard
end Rows
end Go.Proofs.YtjjcjdefenbnjaaDoor
