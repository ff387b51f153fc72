/-
  No cell of these rows narrows 'for every input' (looked for: loops, veiled, ifaces, maps, wideKeys, modest, calm, conditions, laid).
  DERIVED. THE GIVEN ROWS OF THIS SEAT. 5 by the template 'for every input the law returns true; each argument reads behind the call as it read before'; 0 by the template 'total and deterministic' (their statements: YtpomdoliblilfaaTotals.lean).
  GIVEN WITH THE SEED: the statements are not yours to turn. If you find one false, say at which input.
  Laid BY PROGRAM, IN A SANDBOX (cutbox-rows.mjs): the forced cells as the released guide's own fill.sh prints them over the translation 620b586884ad8b54… (all of the seat's roots in one cut). By AI agents, Wed Nov 11 2026. No macro, syntax, notation, axiom, sorry.
-/
import Derived.Test.YtpomdoliblilfaaChecked
import GoSem.Claim
import GoSem.ClaimJoined
import GoSem.ClaimMapViews
import Derived.JoinedTies
import Derived.KernelRfl
namespace Go.Proofs.Ytpomdoliblilfaa
/- THE CELL 'sum', in the pinned program and in every row, IS THE sha256 OF THE DUMP (.gsa) THAT YtpomdoliblilfaaProg.lean LOADS. Nothing in Lean hashes anything: it is a label: what it is worth is what the hold of that sum in a sandbox is worth. -/
noncomputable def Try.pinned : Pinned := { name := "ytpomdoliblilfaa", sum := "620b586884ad8b54c6de38ca06aee6d75d9f8f68b4e80c5b18343dc4cd1e3795", checked := Try.checked }
namespace Rows
def none {H : Type} : Left H := { results := [], args := [] }

/-- 'clevislaw10.BuilderMays': WHATEVER THE INPUT: true; the input reads as it did. -/
def builderMaysSpec : ChangeSpec := { name := "builderMays", fn := fun _ => fun
  | [d] => { results := [.lit (.bool true)], args := [d] }
  | _ => none }
def builderMaysRow : OpenClaim := { program := "ytpomdoliblilfaa", sum := "620b586884ad8b54c6de38ca06aee6d75d9f8f68b4e80c5b18343dc4cd1e3795", func := "clevis/clevislaw10.BuilderMays", spec := "builderMays", inPlace := ["internal/bytealg.IndexByteString"], unfollowed := true, recurses := true, apart := false }
def BuilderMaysSaid : Prop := builderMaysRow.holds Try.pinned (OpenSpec.ofChange builderMaysSpec)

/-- ITS FALSE NEIGHBOUR: 'it returns false'. Refute it at one input. -/
def builderMaysWrong : ChangeSpec := { name := "builderMays", fn := fun _ => fun
  | [d] => { results := [.lit (.bool false)], args := [d] }
  | _ => none }
def BuilderMaysWrongFalsely : Prop := builderMaysRow.holds Try.pinned (OpenSpec.ofChange builderMaysWrong)

/-- 'clevislaw10.BuilderCode': WHATEVER THE INPUT: true; the input reads as it did. -/
def builderCodeSpec : ChangeSpec := { name := "builderCode", fn := fun _ => fun
  | [d] => { results := [.lit (.bool true)], args := [d] }
  | _ => none }
def builderCodeRow : OpenClaim := { program := "ytpomdoliblilfaa", sum := "620b586884ad8b54c6de38ca06aee6d75d9f8f68b4e80c5b18343dc4cd1e3795", func := "clevis/clevislaw10.BuilderCode", spec := "builderCode", inPlace := ["internal/bytealg.IndexByteString"], unfollowed := true, recurses := true, apart := false }
def BuilderCodeSaid : Prop := builderCodeRow.holds Try.pinned (OpenSpec.ofChange builderCodeSpec)

/-- ITS FALSE NEIGHBOUR: 'it returns false'. Refute it at one input. -/
def builderCodeWrong : ChangeSpec := { name := "builderCode", fn := fun _ => fun
  | [d] => { results := [.lit (.bool false)], args := [d] }
  | _ => none }
def BuilderCodeWrongFalsely : Prop := builderCodeRow.holds Try.pinned (OpenSpec.ofChange builderCodeWrong)

/-- 'clevislaw10.BuilderSymbols': WHATEVER THE INPUT: true; the input reads as it did. -/
def builderSymbolsSpec : ChangeSpec := { name := "builderSymbols", fn := fun _ => fun
  | [d] => { results := [.lit (.bool true)], args := [d] }
  | _ => none }
def builderSymbolsRow : OpenClaim := { program := "ytpomdoliblilfaa", sum := "620b586884ad8b54c6de38ca06aee6d75d9f8f68b4e80c5b18343dc4cd1e3795", func := "clevis/clevislaw10.BuilderSymbols", spec := "builderSymbols", inPlace := ["internal/bytealg.IndexByteString"], unfollowed := true, recurses := true, apart := false }
def BuilderSymbolsSaid : Prop := builderSymbolsRow.holds Try.pinned (OpenSpec.ofChange builderSymbolsSpec)

/-- ITS FALSE NEIGHBOUR: 'it returns false'. Refute it at one input. -/
def builderSymbolsWrong : ChangeSpec := { name := "builderSymbols", fn := fun _ => fun
  | [d] => { results := [.lit (.bool false)], args := [d] }
  | _ => none }
def BuilderSymbolsWrongFalsely : Prop := builderSymbolsRow.holds Try.pinned (OpenSpec.ofChange builderSymbolsWrong)

/-- 'clevislaw10.BuilderWords': WHATEVER THE INPUT: true; the input reads as it did. -/
def builderWordsSpec : ChangeSpec := { name := "builderWords", fn := fun _ => fun
  | [d] => { results := [.lit (.bool true)], args := [d] }
  | _ => none }
def builderWordsRow : OpenClaim := { program := "ytpomdoliblilfaa", sum := "620b586884ad8b54c6de38ca06aee6d75d9f8f68b4e80c5b18343dc4cd1e3795", func := "clevis/clevislaw10.BuilderWords", spec := "builderWords", inPlace := ["internal/bytealg.IndexByteString"], unfollowed := true, recurses := true, apart := false }
def BuilderWordsSaid : Prop := builderWordsRow.holds Try.pinned (OpenSpec.ofChange builderWordsSpec)

/-- ITS FALSE NEIGHBOUR: 'it returns false'. Refute it at one input. -/
def builderWordsWrong : ChangeSpec := { name := "builderWords", fn := fun _ => fun
  | [d] => { results := [.lit (.bool false)], args := [d] }
  | _ => none }
def BuilderWordsWrongFalsely : Prop := builderWordsRow.holds Try.pinned (OpenSpec.ofChange builderWordsWrong)

/-- 'clevislaw10.BuilderNames': WHATEVER THE INPUT: true; the input reads as it did. -/
def builderNamesSpec : ChangeSpec := { name := "builderNames", fn := fun _ => fun
  | [d1, d2] => { results := [.lit (.bool true)], args := [d1, d2] }
  | _ => none }
def builderNamesRow : OpenClaim := { program := "ytpomdoliblilfaa", sum := "620b586884ad8b54c6de38ca06aee6d75d9f8f68b4e80c5b18343dc4cd1e3795", func := "clevis/clevislaw10.BuilderNames", spec := "builderNames", inPlace := ["internal/bytealg.IndexByteString"], unfollowed := true, recurses := true, apart := false }
def BuilderNamesSaid : Prop := builderNamesRow.holds Try.pinned (OpenSpec.ofChange builderNamesSpec)

/-- ITS FALSE NEIGHBOUR: 'it returns false'. Refute it at one input. -/
def builderNamesWrong : ChangeSpec := { name := "builderNames", fn := fun _ => fun
  | [d1, d2] => { results := [.lit (.bool false)], args := [d1, d2] }
  | _ => none }
def BuilderNamesWrongFalsely : Prop := builderNamesRow.holds Try.pinned (OpenSpec.ofChange builderNamesWrong)

/- THE SECOND FORM. 'bulk': how many values and letters a reading holds, each counted each time it is reached (what is shared counts as often as it is met; a slice's spare places count too). A statement '..UptoSaid' is the law's where the arguments, and the package variables that the reading takes, are together of bulk at most 1048576: NARROWER than '..Said'. Prove '..Said' where nothing that the law and all that it calls make is longer than what came in: it says more and counts as full. Else prove '..UptoSaid'. A law counts once. -/
mutual
def uptoBulk {H : Type} : DataW H → Nat
  | .lit (.string bytes) => bytes.length + 1
  | .lit _ => 1
  | .nil => 1
  | .ptr d => uptoBulk d + 1
  | .slice elems spare => uptoBulkAll elems + uptoBulkAll spare + 1
  | .agg parts => uptoBulkAll parts + 1
  | .iface _ d => uptoBulk d + 1
  | .map entries => uptoBulkEntries entries + 1
  | .held _ => 1
def uptoBulkAll {H : Type} : List (DataW H) → Nat
  | [] => 0
  | d :: r => uptoBulk d + uptoBulkAll r
def uptoBulkEntries {H : Type} : List (Lit × DataW H) → Nat
  | [] => 0
  | x :: r => uptoBulkEntry x + uptoBulkEntries r
def uptoBulkEntry {H : Type} : Lit × DataW H → Nat
  | (.string bytes, d) => bytes.length + uptoBulk d + 1
  | (_, d) => uptoBulk d + 1
 end
def uptoSmall : (H : Type) → List (DataW H) → Bool := fun _ ds => decide (uptoBulkAll ds ≤ 1048576)
def OpenSpec.upto (s : _root_.Go.ChangeSpec) : _root_.Go.OpenSpec := { _root_.Go.OpenSpec.ofChange s with cond := some uptoSmall }

/-- 'clevislaw10.BuilderMays', WHERE WHAT IT READS IS OF BULK AT MOST 1048576: true; the input reads as it did. -/
def builderMaysUptoRow : OpenClaim := { program := "ytpomdoliblilfaa", sum := "620b586884ad8b54c6de38ca06aee6d75d9f8f68b4e80c5b18343dc4cd1e3795", func := "clevis/clevislaw10.BuilderMays", spec := "builderMays", inPlace := ["internal/bytealg.IndexByteString"], unfollowed := true, recurses := true, apart := false, narrowed := true }
def BuilderMaysUptoSaid : Prop := builderMaysUptoRow.holds Try.pinned (OpenSpec.upto builderMaysSpec)

/-- 'clevislaw10.BuilderCode', WHERE WHAT IT READS IS OF BULK AT MOST 1048576: true; the input reads as it did. -/
def builderCodeUptoRow : OpenClaim := { program := "ytpomdoliblilfaa", sum := "620b586884ad8b54c6de38ca06aee6d75d9f8f68b4e80c5b18343dc4cd1e3795", func := "clevis/clevislaw10.BuilderCode", spec := "builderCode", inPlace := ["internal/bytealg.IndexByteString"], unfollowed := true, recurses := true, apart := false, narrowed := true }
def BuilderCodeUptoSaid : Prop := builderCodeUptoRow.holds Try.pinned (OpenSpec.upto builderCodeSpec)

/-- 'clevislaw10.BuilderSymbols', WHERE WHAT IT READS IS OF BULK AT MOST 1048576: true; the input reads as it did. -/
def builderSymbolsUptoRow : OpenClaim := { program := "ytpomdoliblilfaa", sum := "620b586884ad8b54c6de38ca06aee6d75d9f8f68b4e80c5b18343dc4cd1e3795", func := "clevis/clevislaw10.BuilderSymbols", spec := "builderSymbols", inPlace := ["internal/bytealg.IndexByteString"], unfollowed := true, recurses := true, apart := false, narrowed := true }
def BuilderSymbolsUptoSaid : Prop := builderSymbolsUptoRow.holds Try.pinned (OpenSpec.upto builderSymbolsSpec)

/-- 'clevislaw10.BuilderWords', WHERE WHAT IT READS IS OF BULK AT MOST 1048576: true; the input reads as it did. -/
def builderWordsUptoRow : OpenClaim := { program := "ytpomdoliblilfaa", sum := "620b586884ad8b54c6de38ca06aee6d75d9f8f68b4e80c5b18343dc4cd1e3795", func := "clevis/clevislaw10.BuilderWords", spec := "builderWords", inPlace := ["internal/bytealg.IndexByteString"], unfollowed := true, recurses := true, apart := false, narrowed := true }
def BuilderWordsUptoSaid : Prop := builderWordsUptoRow.holds Try.pinned (OpenSpec.upto builderWordsSpec)

/-- 'clevislaw10.BuilderNames', WHERE WHAT IT READS IS OF BULK AT MOST 1048576: true; the input reads as it did. -/
def builderNamesUptoRow : OpenClaim := { program := "ytpomdoliblilfaa", sum := "620b586884ad8b54c6de38ca06aee6d75d9f8f68b4e80c5b18343dc4cd1e3795", func := "clevis/clevislaw10.BuilderNames", spec := "builderNames", inPlace := ["internal/bytealg.IndexByteString"], unfollowed := true, recurses := true, apart := false, narrowed := true }
def BuilderNamesUptoSaid : Prop := builderNamesUptoRow.holds Try.pinned (OpenSpec.upto builderNamesSpec)

end Rows
end Go.Proofs.Ytpomdoliblilfaa
