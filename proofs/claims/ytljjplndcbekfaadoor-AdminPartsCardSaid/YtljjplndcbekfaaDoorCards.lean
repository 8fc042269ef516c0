/-
  DERIVED. GIVEN WITH THE SEED: THE CARDS: each row of YtljjplndcbekfaaDoorRows.lean that lists a variable, with what it lists TIED to the program's text (the seventh form; the later family's looks); each row that meets fmt, with fmt's text TOLD by the authors' own Lean function (tested against real Go, not proved from fmt's source: count such statements apart). THE CARD IS WHAT COUNTS. Prove the row's statement (the work); the ties are given (YtljjplndcbekfaaDoorTie.lean); close each card by the builder's one call (the guide's Derived/Test/ToyasCard.lean, 'card_holds'). Laid BY PROGRAM, IN A SANDBOX (cutbox-door.mjs). By AI agents, Wed Nov 11 2026. No macro, syntax, notation, axiom, sorry.
-/
import Derived.Test.YtljjplndcbekfaaDoorRows
import GoSem.ClaimSeven
namespace Go.Proofs.YtljjplndcbekfaaDoor
namespace Rows

/-- THE TIED CARD OF 'hostlerlaw19.AdminRows'. -/
def adminRowsCard : Claim7 := { stood := { row := adminRowsRow, standIns := [], harness := (true, "8f68d5a927e42a62017c5a86449bbdab2437077a8c36884be0218a16a3e0972a"), looks := true }, kinds := [], alts := [], laidByText := true, laidKinds := [.data, .data, .data, .data, .sentinel, .sentinel, .pinned], laidTests := true, laidLooks := .later }
def AdminRowsCardSaid : Prop := Claim7.holds Tryd.pinned (.plain (OpenSpec.ofChange adminRowsSpec)) adminRowsCard

/-- THE TIED CARD OF 'hostlerlaw19.AdminParts'. -/
def adminPartsCard : Claim7 := { stood := { row := adminPartsRow, standIns := [], harness := (true, "8f68d5a927e42a62017c5a86449bbdab2437077a8c36884be0218a16a3e0972a"), looks := true }, kinds := [], alts := [], laidByText := true, laidKinds := [.data, .data, .data, .data, .sentinel, .sentinel, .pinned], laidTests := true, laidLooks := .later }
def AdminPartsCardSaid : Prop := Claim7.holds Tryd.pinned (.plain (OpenSpec.ofChange adminPartsSpec)) adminPartsCard

/-- THE SECOND FORM's CARD OF 'hostlerlaw19.AdminRows'. -/
def adminRowsUptoCard : Claim7 := { stood := { row := adminRowsUptoRow, standIns := [], harness := (true, "8f68d5a927e42a62017c5a86449bbdab2437077a8c36884be0218a16a3e0972a"), looks := true }, kinds := [], alts := [], laidByText := true, laidKinds := [.data, .data, .data, .data, .sentinel, .sentinel, .pinned], laidTests := true, laidLooks := .later }
def AdminRowsUptoCardSaid : Prop := Claim7.holds Tryd.pinned (.plain (OpenSpec.upto adminRowsSpec)) adminRowsUptoCard

/-- THE SECOND FORM's CARD OF 'hostlerlaw19.AdminParts'. -/
def adminPartsUptoCard : Claim7 := { stood := { row := adminPartsUptoRow, standIns := [], harness := (true, "8f68d5a927e42a62017c5a86449bbdab2437077a8c36884be0218a16a3e0972a"), looks := true }, kinds := [], alts := [], laidByText := true, laidKinds := [.data, .data, .data, .data, .sentinel, .sentinel, .pinned], laidTests := true, laidLooks := .later }
def AdminPartsUptoCardSaid : Prop := Claim7.holds Tryd.pinned (.plain (OpenSpec.upto adminPartsSpec)) adminPartsUptoCard
end Rows
end Go.Proofs.YtljjplndcbekfaaDoor
