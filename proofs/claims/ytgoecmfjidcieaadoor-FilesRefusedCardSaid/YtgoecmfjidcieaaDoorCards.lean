/-
  DERIVED. GIVEN WITH THE SEED: THE CARDS: each row of YtgoecmfjidcieaaDoorRows.lean that lists a variable, with what it lists TIED to the program's text (the seventh form; the later family's looks); each row that meets fmt, with fmt's text TOLD by the authors' own Lean function (tested against real Go, not proved from fmt's source: count such statements apart). THE CARD IS WHAT COUNTS. Prove the row's statement (the work); the ties are given (YtgoecmfjidcieaaDoorTie.lean); close each card by the builder's one call (the guide's Derived/Test/ToyasCard.lean, 'card_holds'). Laid BY PROGRAM, IN A SANDBOX (cutbox-door.mjs). By AI agents, Wed Nov 11 2026. No macro, syntax, notation, axiom, sorry.
-/
import Derived.Test.YtgoecmfjidcieaaDoorRows
import GoSem.ClaimSeven
namespace Go.Proofs.YtgoecmfjidcieaaDoor
namespace Rows

/-- THE TIED CARD OF 'clevislaw03.FilesCleans'. -/
def filesCleansCard : Claim7 := { stood := { row := filesCleansRow, standIns := [], harness := (true, "b82b6baf26d8a0b3120171f1bfc488a16afa453b8f8c82d12ebcf9b4a51660e9"), looks := true }, kinds := [], alts := [], laidByText := true, laidKinds := [.data, .pinned], laidTests := true, laidLooks := .later }
def FilesCleansCardSaid : Prop := Claim7.holds Tryd.pinned (.plain (OpenSpec.ofChange filesCleansSpec)) filesCleansCard

/-- THE TIED CARD OF 'clevislaw03.FilesIdem'. -/
def filesIdemCard : Claim7 := { stood := { row := filesIdemRow, standIns := [], harness := (true, "b82b6baf26d8a0b3120171f1bfc488a16afa453b8f8c82d12ebcf9b4a51660e9"), looks := true }, kinds := [], alts := [], laidByText := true, laidKinds := [.data, .pinned], laidTests := true, laidLooks := .later }
def FilesIdemCardSaid : Prop := Claim7.holds Tryd.pinned (.plain (OpenSpec.ofChange filesIdemSpec)) filesIdemCard

/-- THE TIED CARD OF 'clevislaw03.FilesKeeps'. -/
def filesKeepsCard : Claim7 := { stood := { row := filesKeepsRow, standIns := [], harness := (true, "b82b6baf26d8a0b3120171f1bfc488a16afa453b8f8c82d12ebcf9b4a51660e9"), looks := true }, kinds := [], alts := [], laidByText := true, laidKinds := [.data, .pinned], laidTests := true, laidLooks := .later }
def FilesKeepsCardSaid : Prop := Claim7.holds Tryd.pinned (.plain (OpenSpec.ofChange filesKeepsSpec)) filesKeepsCard

/-- THE TIED CARD OF 'clevislaw03.FilesLinks'. -/
def filesLinksCard : Claim7 := { stood := { row := filesLinksRow, standIns := [], harness := (true, "b82b6baf26d8a0b3120171f1bfc488a16afa453b8f8c82d12ebcf9b4a51660e9"), looks := true }, kinds := [], alts := [], laidByText := true, laidKinds := [.data, .pinned], laidTests := true, laidLooks := .later }
def FilesLinksCardSaid : Prop := Claim7.holds Tryd.pinned (.plain (OpenSpec.ofChange filesLinksSpec)) filesLinksCard

/-- THE TIED CARD OF 'clevislaw03.FilesRefused'. -/
def filesRefusedCard : Claim7 := { stood := { row := filesRefusedRow, standIns := [], harness := (true, "b82b6baf26d8a0b3120171f1bfc488a16afa453b8f8c82d12ebcf9b4a51660e9"), looks := true }, kinds := [], alts := [], laidByText := true, laidKinds := [.data, .pinned], laidTests := true, laidLooks := .later }
def FilesRefusedCardSaid : Prop := Claim7.holds Tryd.pinned (.plain (OpenSpec.ofChange filesRefusedSpec)) filesRefusedCard

/-- THE SECOND FORM's CARD OF 'clevislaw03.FilesCleans'. -/
def filesCleansUptoCard : Claim7 := { stood := { row := filesCleansUptoRow, standIns := [], harness := (true, "b82b6baf26d8a0b3120171f1bfc488a16afa453b8f8c82d12ebcf9b4a51660e9"), looks := true }, kinds := [], alts := [], laidByText := true, laidKinds := [.data, .pinned], laidTests := true, laidLooks := .later }
def FilesCleansUptoCardSaid : Prop := Claim7.holds Tryd.pinned (.plain (OpenSpec.upto filesCleansSpec)) filesCleansUptoCard

/-- THE SECOND FORM's CARD OF 'clevislaw03.FilesIdem'. -/
def filesIdemUptoCard : Claim7 := { stood := { row := filesIdemUptoRow, standIns := [], harness := (true, "b82b6baf26d8a0b3120171f1bfc488a16afa453b8f8c82d12ebcf9b4a51660e9"), looks := true }, kinds := [], alts := [], laidByText := true, laidKinds := [.data, .pinned], laidTests := true, laidLooks := .later }
def FilesIdemUptoCardSaid : Prop := Claim7.holds Tryd.pinned (.plain (OpenSpec.upto filesIdemSpec)) filesIdemUptoCard

/-- THE SECOND FORM's CARD OF 'clevislaw03.FilesKeeps'. -/
def filesKeepsUptoCard : Claim7 := { stood := { row := filesKeepsUptoRow, standIns := [], harness := (true, "b82b6baf26d8a0b3120171f1bfc488a16afa453b8f8c82d12ebcf9b4a51660e9"), looks := true }, kinds := [], alts := [], laidByText := true, laidKinds := [.data, .pinned], laidTests := true, laidLooks := .later }
def FilesKeepsUptoCardSaid : Prop := Claim7.holds Tryd.pinned (.plain (OpenSpec.upto filesKeepsSpec)) filesKeepsUptoCard

/-- THE SECOND FORM's CARD OF 'clevislaw03.FilesLinks'. -/
def filesLinksUptoCard : Claim7 := { stood := { row := filesLinksUptoRow, standIns := [], harness := (true, "b82b6baf26d8a0b3120171f1bfc488a16afa453b8f8c82d12ebcf9b4a51660e9"), looks := true }, kinds := [], alts := [], laidByText := true, laidKinds := [.data, .pinned], laidTests := true, laidLooks := .later }
def FilesLinksUptoCardSaid : Prop := Claim7.holds Tryd.pinned (.plain (OpenSpec.upto filesLinksSpec)) filesLinksUptoCard

/-- THE SECOND FORM's CARD OF 'clevislaw03.FilesRefused'. -/
def filesRefusedUptoCard : Claim7 := { stood := { row := filesRefusedUptoRow, standIns := [], harness := (true, "b82b6baf26d8a0b3120171f1bfc488a16afa453b8f8c82d12ebcf9b4a51660e9"), looks := true }, kinds := [], alts := [], laidByText := true, laidKinds := [.data, .pinned], laidTests := true, laidLooks := .later }
def FilesRefusedUptoCardSaid : Prop := Claim7.holds Tryd.pinned (.plain (OpenSpec.upto filesRefusedSpec)) filesRefusedUptoCard
end Rows
end Go.Proofs.YtgoecmfjidcieaaDoor
