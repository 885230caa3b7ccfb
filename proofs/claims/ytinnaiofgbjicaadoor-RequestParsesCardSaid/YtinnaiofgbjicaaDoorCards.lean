/-
  DERIVED. GIVEN WITH THE SEED: THE CARDS: each row of YtinnaiofgbjicaaDoorRows.lean that lists a variable, with what it lists TIED to the program's text (the seventh form; the later family's looks); each row that meets fmt, with fmt's text TOLD by the authors' own Lean function (tested against real Go, not proved from fmt's source: count such statements apart). THE CARD IS WHAT COUNTS. Prove the row's statement (the work); the ties are given (YtinnaiofgbjicaaDoorTie.lean); close each card by the builder's one call (the guide's Derived/Test/ToyasCard.lean, 'card_holds'). Laid BY PROGRAM, IN A SANDBOX (cutbox-door.mjs). By AI agents, Wed Nov 11 2026. No macro, syntax, notation, axiom, sorry.
-/
import Derived.Test.YtinnaiofgbjicaaDoorRows
import GoSem.ClaimSeven
namespace Go.Proofs.YtinnaiofgbjicaaDoor
namespace Rows

/-- THE TIED CARD OF 'rondellaw09.RequestReads'. -/
def requestReadsCard : Claim7 := { stood := { row := requestReadsRow, standIns := [], harness := (true, "43af859e4735f33734c23b50eb7a806be878dd243c68355b5d488986f0a76e63"), looks := true }, kinds := [], alts := [], laidByText := true, laidKinds := [.data, .pinned], laidTests := true, laidLooks := .later }
def RequestReadsCardSaid : Prop := Claim7.holds Tryd.pinned (.plain (OpenSpec.ofChange requestReadsSpec)) requestReadsCard

/-- THE TIED CARD OF 'rondellaw09.RequestNames'. -/
def requestNamesCard : Claim7 := { stood := { row := requestNamesRow, standIns := [], harness := (true, "43af859e4735f33734c23b50eb7a806be878dd243c68355b5d488986f0a76e63"), looks := true }, kinds := [], alts := [], laidByText := true, laidKinds := [.data, .pinned], laidTests := true, laidLooks := .later }
def RequestNamesCardSaid : Prop := Claim7.holds Tryd.pinned (.plain (OpenSpec.ofChange requestNamesSpec)) requestNamesCard

/-- THE TIED CARD OF 'rondellaw10.EventWords'. -/
def eventWordsCard : Claim7 := { stood := { row := eventWordsRow, standIns := [], harness := (true, "43af859e4735f33734c23b50eb7a806be878dd243c68355b5d488986f0a76e63"), looks := true }, kinds := [], alts := [], laidByText := true, laidKinds := [.data, .data, .data], laidTests := true, laidLooks := .later }
def EventWordsCardSaid : Prop := Claim7.holds Tryd.pinned (.plain (OpenSpec.ofChange eventWordsSpec)) eventWordsCard

/-- THE TIED CARD OF 'rondellaw10.EventShows'. -/
def eventShowsCard : Claim7 := { stood := { row := eventShowsRow, standIns := [], harness := (true, "43af859e4735f33734c23b50eb7a806be878dd243c68355b5d488986f0a76e63"), looks := true }, kinds := [], alts := [], laidByText := true, laidKinds := [.data, .data, .data], laidTests := true, laidLooks := .later }
def EventShowsCardSaid : Prop := Claim7.holds Tryd.pinned (.plain (OpenSpec.ofChange eventShowsSpec)) eventShowsCard

/-- THE TIED CARD OF 'rondellaw09.RequestParses'. -/
def requestParsesCard : Claim7 := { stood := { row := requestParsesRow, standIns := [], harness := (true, "43af859e4735f33734c23b50eb7a806be878dd243c68355b5d488986f0a76e63"), looks := true }, kinds := [], alts := [], laidByText := true, laidKinds := [.data, .pinned], laidTests := true, laidLooks := .later }
def RequestParsesCardSaid : Prop := Claim7.holds Tryd.pinned (.plain (OpenSpec.ofChange requestParsesSpec)) requestParsesCard

/-- THE TIED CARD OF 'rondellaw09.RequestWrites'. -/
def requestWritesCard : Claim7 := { stood := { row := requestWritesRow, standIns := [], harness := (true, "43af859e4735f33734c23b50eb7a806be878dd243c68355b5d488986f0a76e63"), looks := true }, kinds := [], alts := [], laidByText := true, laidKinds := [.data, .pinned], laidTests := true, laidLooks := .later }
def RequestWritesCardSaid : Prop := Claim7.holds Tryd.pinned (.plain (OpenSpec.ofChange requestWritesSpec)) requestWritesCard

/-- THE TIED CARD OF 'rondellaw09.RequestBounds'. -/
def requestBoundsCard : Claim7 := { stood := { row := requestBoundsRow, standIns := [], harness := (true, "43af859e4735f33734c23b50eb7a806be878dd243c68355b5d488986f0a76e63"), looks := true }, kinds := [], alts := [], laidByText := true, laidKinds := [.data, .pinned], laidTests := true, laidLooks := .later }
def RequestBoundsCardSaid : Prop := Claim7.holds Tryd.pinned (.plain (OpenSpec.ofChange requestBoundsSpec)) requestBoundsCard

/-- THE TIED CARD OF 'rondellaw09.RequestApart'. -/
def requestApartCard : Claim7 := { stood := { row := requestApartRow, standIns := [], harness := (true, "43af859e4735f33734c23b50eb7a806be878dd243c68355b5d488986f0a76e63"), looks := true }, kinds := [], alts := [], laidByText := true, laidKinds := [.data, .pinned], laidTests := true, laidLooks := .later }
def RequestApartCardSaid : Prop := Claim7.holds Tryd.pinned (.plain (OpenSpec.ofChange requestApartSpec)) requestApartCard

/-- THE SECOND FORM's CARD OF 'rondellaw09.RequestReads'. -/
def requestReadsUptoCard : Claim7 := { stood := { row := requestReadsUptoRow, standIns := [], harness := (true, "43af859e4735f33734c23b50eb7a806be878dd243c68355b5d488986f0a76e63"), looks := true }, kinds := [], alts := [], laidByText := true, laidKinds := [.data, .pinned], laidTests := true, laidLooks := .later }
def RequestReadsUptoCardSaid : Prop := Claim7.holds Tryd.pinned (.plain (OpenSpec.upto requestReadsSpec)) requestReadsUptoCard

/-- THE SECOND FORM's CARD OF 'rondellaw09.RequestNames'. -/
def requestNamesUptoCard : Claim7 := { stood := { row := requestNamesUptoRow, standIns := [], harness := (true, "43af859e4735f33734c23b50eb7a806be878dd243c68355b5d488986f0a76e63"), looks := true }, kinds := [], alts := [], laidByText := true, laidKinds := [.data, .pinned], laidTests := true, laidLooks := .later }
def RequestNamesUptoCardSaid : Prop := Claim7.holds Tryd.pinned (.plain (OpenSpec.upto requestNamesSpec)) requestNamesUptoCard

/-- THE SECOND FORM's CARD OF 'rondellaw10.EventWords'. -/
def eventWordsUptoCard : Claim7 := { stood := { row := eventWordsUptoRow, standIns := [], harness := (true, "43af859e4735f33734c23b50eb7a806be878dd243c68355b5d488986f0a76e63"), looks := true }, kinds := [], alts := [], laidByText := true, laidKinds := [.data, .data, .data], laidTests := true, laidLooks := .later }
def EventWordsUptoCardSaid : Prop := Claim7.holds Tryd.pinned (.plain (OpenSpec.upto eventWordsSpec)) eventWordsUptoCard

/-- THE SECOND FORM's CARD OF 'rondellaw10.EventShows'. -/
def eventShowsUptoCard : Claim7 := { stood := { row := eventShowsUptoRow, standIns := [], harness := (true, "43af859e4735f33734c23b50eb7a806be878dd243c68355b5d488986f0a76e63"), looks := true }, kinds := [], alts := [], laidByText := true, laidKinds := [.data, .data, .data], laidTests := true, laidLooks := .later }
def EventShowsUptoCardSaid : Prop := Claim7.holds Tryd.pinned (.plain (OpenSpec.upto eventShowsSpec)) eventShowsUptoCard

/-- THE SECOND FORM's CARD OF 'rondellaw09.RequestParses'. -/
def requestParsesUptoCard : Claim7 := { stood := { row := requestParsesUptoRow, standIns := [], harness := (true, "43af859e4735f33734c23b50eb7a806be878dd243c68355b5d488986f0a76e63"), looks := true }, kinds := [], alts := [], laidByText := true, laidKinds := [.data, .pinned], laidTests := true, laidLooks := .later }
def RequestParsesUptoCardSaid : Prop := Claim7.holds Tryd.pinned (.plain (OpenSpec.upto requestParsesSpec)) requestParsesUptoCard

/-- THE SECOND FORM's CARD OF 'rondellaw09.RequestWrites'. -/
def requestWritesUptoCard : Claim7 := { stood := { row := requestWritesUptoRow, standIns := [], harness := (true, "43af859e4735f33734c23b50eb7a806be878dd243c68355b5d488986f0a76e63"), looks := true }, kinds := [], alts := [], laidByText := true, laidKinds := [.data, .pinned], laidTests := true, laidLooks := .later }
def RequestWritesUptoCardSaid : Prop := Claim7.holds Tryd.pinned (.plain (OpenSpec.upto requestWritesSpec)) requestWritesUptoCard

/-- THE SECOND FORM's CARD OF 'rondellaw09.RequestBounds'. -/
def requestBoundsUptoCard : Claim7 := { stood := { row := requestBoundsUptoRow, standIns := [], harness := (true, "43af859e4735f33734c23b50eb7a806be878dd243c68355b5d488986f0a76e63"), looks := true }, kinds := [], alts := [], laidByText := true, laidKinds := [.data, .pinned], laidTests := true, laidLooks := .later }
def RequestBoundsUptoCardSaid : Prop := Claim7.holds Tryd.pinned (.plain (OpenSpec.upto requestBoundsSpec)) requestBoundsUptoCard

/-- THE SECOND FORM's CARD OF 'rondellaw09.RequestApart'. -/
def requestApartUptoCard : Claim7 := { stood := { row := requestApartUptoRow, standIns := [], harness := (true, "43af859e4735f33734c23b50eb7a806be878dd243c68355b5d488986f0a76e63"), looks := true }, kinds := [], alts := [], laidByText := true, laidKinds := [.data, .pinned], laidTests := true, laidLooks := .later }
def RequestApartUptoCardSaid : Prop := Claim7.holds Tryd.pinned (.plain (OpenSpec.upto requestApartSpec)) requestApartUptoCard
end Rows
end Go.Proofs.YtinnaiofgbjicaaDoor
