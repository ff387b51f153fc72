/-
  DERIVED. GIVEN WITH THE SEED: THE CARDS: each row of YtmckjdopplchbaaDoorRows.lean that lists a variable, with what it lists TIED to the program's text (the seventh form; the later family's looks); each row that meets fmt, with fmt's text TOLD by the authors' own Lean function (tested against real Go, not proved from fmt's source: count such statements apart). THE CARD IS WHAT COUNTS. Prove the row's statement (the work); the ties are given (YtmckjdopplchbaaDoorTie.lean); close each card by the builder's one call (the guide's Derived/Test/ToyasCard.lean, 'card_holds'). Laid BY PROGRAM, IN A SANDBOX (cutbox-door.mjs). By AI agents, Wed Nov 11 2026. No macro, syntax, notation, axiom, sorry.
-/
import Derived.Test.YtmckjdopplchbaaDoorRows
import GoSem.ClaimSeven
namespace Go.Proofs.YtmckjdopplchbaaDoor
namespace Rows

/-- THE TIED CARD OF 'clevislaw11.TokenExpands'. -/
def tokenExpandsCard : Claim7 := { stood := { row := tokenExpandsRow, standIns := [], harness := (true, "89cc46eb2352d45eb1175fd862f166d8fd64a5d7da83c5c1be3c72f1c37633aa"), looks := false }, kinds := [], alts := [], laidByText := true, laidKinds := [.data, .pinned], laidTests := true, laidLooks := .later }
def TokenExpandsCardSaid : Prop := Claim7.holds Tryd.pinned (.plain (OpenSpec.ofChange tokenExpandsSpec)) tokenExpandsCard

/-- THE TIED CARD OF 'clevislaw11.TokenPlain'. -/
def tokenPlainCard : Claim7 := { stood := { row := tokenPlainRow, standIns := [], harness := (true, "89cc46eb2352d45eb1175fd862f166d8fd64a5d7da83c5c1be3c72f1c37633aa"), looks := false }, kinds := [], alts := [], laidByText := true, laidKinds := [.data, .pinned], laidTests := true, laidLooks := .later }
def TokenPlainCardSaid : Prop := Claim7.holds Tryd.pinned (.plain (OpenSpec.ofChange tokenPlainSpec)) tokenPlainCard

/-- THE TIED CARD OF 'clevislaw11.TokenParts'. -/
def tokenPartsCard : Claim7 := { stood := { row := tokenPartsRow, standIns := [], harness := (true, "89cc46eb2352d45eb1175fd862f166d8fd64a5d7da83c5c1be3c72f1c37633aa"), looks := false }, kinds := [], alts := [], laidByText := true, laidKinds := [.data, .pinned], laidTests := true, laidLooks := .later }
def TokenPartsCardSaid : Prop := Claim7.holds Tryd.pinned (.plain (OpenSpec.ofChange tokenPartsSpec)) tokenPartsCard

/-- THE TIED CARD OF 'clevislaw11.TokenOrigins'. -/
def tokenOriginsCard : Claim7 := { stood := { row := tokenOriginsRow, standIns := [], harness := (true, "89cc46eb2352d45eb1175fd862f166d8fd64a5d7da83c5c1be3c72f1c37633aa"), looks := false }, kinds := [], alts := [], laidByText := true, laidKinds := [.data, .pinned], laidTests := true, laidLooks := .later }
def TokenOriginsCardSaid : Prop := Claim7.holds Tryd.pinned (.plain (OpenSpec.ofChange tokenOriginsSpec)) tokenOriginsCard

/-- THE TIED CARD OF 'clevislaw11.TokenSplits'. -/
def tokenSplitsCard : Claim7 := { stood := { row := tokenSplitsRow, standIns := [], harness := (true, "89cc46eb2352d45eb1175fd862f166d8fd64a5d7da83c5c1be3c72f1c37633aa"), looks := false }, kinds := [], alts := [], laidByText := true, laidKinds := [.data, .pinned], laidTests := true, laidLooks := .later }
def TokenSplitsCardSaid : Prop := Claim7.holds Tryd.pinned (.plain (OpenSpec.ofChange tokenSplitsSpec)) tokenSplitsCard

/-- THE TIED CARD OF 'clevislaw11.TokenLists'. -/
def tokenListsCard : Claim7 := { stood := { row := tokenListsRow, standIns := [], harness := (true, "89cc46eb2352d45eb1175fd862f166d8fd64a5d7da83c5c1be3c72f1c37633aa"), looks := false }, kinds := [], alts := [], laidByText := true, laidKinds := [.data, .pinned], laidTests := true, laidLooks := .later }
def TokenListsCardSaid : Prop := Claim7.holds Tryd.pinned (.plain (OpenSpec.ofChange tokenListsSpec)) tokenListsCard

/-- THE TIED CARD OF 'clevislaw12.SearchLists'. -/
def searchListsCard : Claim7 := { stood := { row := searchListsRow, standIns := [], harness := (true, "89cc46eb2352d45eb1175fd862f166d8fd64a5d7da83c5c1be3c72f1c37633aa"), looks := false }, kinds := [], alts := [], laidByText := true, laidKinds := [.data, .pinned], laidTests := true, laidLooks := .later }
def SearchListsCardSaid : Prop := Claim7.holds Tryd.pinned (.plain (OpenSpec.ofChange searchListsSpec)) searchListsCard

/-- THE TIED CARD OF 'clevislaw12.SearchOrder'. -/
def searchOrderCard : Claim7 := { stood := { row := searchOrderRow, standIns := [], harness := (true, "89cc46eb2352d45eb1175fd862f166d8fd64a5d7da83c5c1be3c72f1c37633aa"), looks := false }, kinds := [], alts := [], laidByText := true, laidKinds := [.data, .pinned], laidTests := true, laidLooks := .later }
def SearchOrderCardSaid : Prop := Claim7.holds Tryd.pinned (.plain (OpenSpec.ofChange searchOrderSpec)) searchOrderCard

/-- THE TIED CARD OF 'clevislaw12.SearchClean'. -/
def searchCleanCard : Claim7 := { stood := { row := searchCleanRow, standIns := [], harness := (true, "89cc46eb2352d45eb1175fd862f166d8fd64a5d7da83c5c1be3c72f1c37633aa"), looks := false }, kinds := [], alts := [], laidByText := true, laidKinds := [.data, .pinned], laidTests := true, laidLooks := .later }
def SearchCleanCardSaid : Prop := Claim7.holds Tryd.pinned (.plain (OpenSpec.ofChange searchCleanSpec)) searchCleanCard

/-- THE SECOND FORM's CARD OF 'clevislaw11.TokenExpands'. -/
def tokenExpandsUptoCard : Claim7 := { stood := { row := tokenExpandsUptoRow, standIns := [], harness := (true, "89cc46eb2352d45eb1175fd862f166d8fd64a5d7da83c5c1be3c72f1c37633aa"), looks := false }, kinds := [], alts := [], laidByText := true, laidKinds := [.data, .pinned], laidTests := true, laidLooks := .later }
def TokenExpandsUptoCardSaid : Prop := Claim7.holds Tryd.pinned (.plain (OpenSpec.upto tokenExpandsSpec)) tokenExpandsUptoCard

/-- THE SECOND FORM's CARD OF 'clevislaw11.TokenPlain'. -/
def tokenPlainUptoCard : Claim7 := { stood := { row := tokenPlainUptoRow, standIns := [], harness := (true, "89cc46eb2352d45eb1175fd862f166d8fd64a5d7da83c5c1be3c72f1c37633aa"), looks := false }, kinds := [], alts := [], laidByText := true, laidKinds := [.data, .pinned], laidTests := true, laidLooks := .later }
def TokenPlainUptoCardSaid : Prop := Claim7.holds Tryd.pinned (.plain (OpenSpec.upto tokenPlainSpec)) tokenPlainUptoCard

/-- THE SECOND FORM's CARD OF 'clevislaw11.TokenParts'. -/
def tokenPartsUptoCard : Claim7 := { stood := { row := tokenPartsUptoRow, standIns := [], harness := (true, "89cc46eb2352d45eb1175fd862f166d8fd64a5d7da83c5c1be3c72f1c37633aa"), looks := false }, kinds := [], alts := [], laidByText := true, laidKinds := [.data, .pinned], laidTests := true, laidLooks := .later }
def TokenPartsUptoCardSaid : Prop := Claim7.holds Tryd.pinned (.plain (OpenSpec.upto tokenPartsSpec)) tokenPartsUptoCard

/-- THE SECOND FORM's CARD OF 'clevislaw11.TokenOrigins'. -/
def tokenOriginsUptoCard : Claim7 := { stood := { row := tokenOriginsUptoRow, standIns := [], harness := (true, "89cc46eb2352d45eb1175fd862f166d8fd64a5d7da83c5c1be3c72f1c37633aa"), looks := false }, kinds := [], alts := [], laidByText := true, laidKinds := [.data, .pinned], laidTests := true, laidLooks := .later }
def TokenOriginsUptoCardSaid : Prop := Claim7.holds Tryd.pinned (.plain (OpenSpec.upto tokenOriginsSpec)) tokenOriginsUptoCard

/-- THE SECOND FORM's CARD OF 'clevislaw11.TokenSplits'. -/
def tokenSplitsUptoCard : Claim7 := { stood := { row := tokenSplitsUptoRow, standIns := [], harness := (true, "89cc46eb2352d45eb1175fd862f166d8fd64a5d7da83c5c1be3c72f1c37633aa"), looks := false }, kinds := [], alts := [], laidByText := true, laidKinds := [.data, .pinned], laidTests := true, laidLooks := .later }
def TokenSplitsUptoCardSaid : Prop := Claim7.holds Tryd.pinned (.plain (OpenSpec.upto tokenSplitsSpec)) tokenSplitsUptoCard

/-- THE SECOND FORM's CARD OF 'clevislaw11.TokenLists'. -/
def tokenListsUptoCard : Claim7 := { stood := { row := tokenListsUptoRow, standIns := [], harness := (true, "89cc46eb2352d45eb1175fd862f166d8fd64a5d7da83c5c1be3c72f1c37633aa"), looks := false }, kinds := [], alts := [], laidByText := true, laidKinds := [.data, .pinned], laidTests := true, laidLooks := .later }
def TokenListsUptoCardSaid : Prop := Claim7.holds Tryd.pinned (.plain (OpenSpec.upto tokenListsSpec)) tokenListsUptoCard

/-- THE SECOND FORM's CARD OF 'clevislaw12.SearchLists'. -/
def searchListsUptoCard : Claim7 := { stood := { row := searchListsUptoRow, standIns := [], harness := (true, "89cc46eb2352d45eb1175fd862f166d8fd64a5d7da83c5c1be3c72f1c37633aa"), looks := false }, kinds := [], alts := [], laidByText := true, laidKinds := [.data, .pinned], laidTests := true, laidLooks := .later }
def SearchListsUptoCardSaid : Prop := Claim7.holds Tryd.pinned (.plain (OpenSpec.upto searchListsSpec)) searchListsUptoCard

/-- THE SECOND FORM's CARD OF 'clevislaw12.SearchOrder'. -/
def searchOrderUptoCard : Claim7 := { stood := { row := searchOrderUptoRow, standIns := [], harness := (true, "89cc46eb2352d45eb1175fd862f166d8fd64a5d7da83c5c1be3c72f1c37633aa"), looks := false }, kinds := [], alts := [], laidByText := true, laidKinds := [.data, .pinned], laidTests := true, laidLooks := .later }
def SearchOrderUptoCardSaid : Prop := Claim7.holds Tryd.pinned (.plain (OpenSpec.upto searchOrderSpec)) searchOrderUptoCard

/-- THE SECOND FORM's CARD OF 'clevislaw12.SearchClean'. -/
def searchCleanUptoCard : Claim7 := { stood := { row := searchCleanUptoRow, standIns := [], harness := (true, "89cc46eb2352d45eb1175fd862f166d8fd64a5d7da83c5c1be3c72f1c37633aa"), looks := false }, kinds := [], alts := [], laidByText := true, laidKinds := [.data, .pinned], laidTests := true, laidLooks := .later }
def SearchCleanUptoCardSaid : Prop := Claim7.holds Tryd.pinned (.plain (OpenSpec.upto searchCleanSpec)) searchCleanUptoCard
end Rows
end Go.Proofs.YtmckjdopplchbaaDoor
