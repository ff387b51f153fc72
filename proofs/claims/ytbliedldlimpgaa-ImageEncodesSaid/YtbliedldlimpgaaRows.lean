/-
  No cell of these rows narrows 'for every input' (looked for: loops, veiled, ifaces, maps, wideKeys, modest, calm, conditions, laid).
  DERIVED. THE GIVEN ROWS OF THIS SEAT. 6 by the template 'for every input the law returns true; each argument reads behind the call as it read before'; 0 by the template 'total and deterministic' (their statements: YtbliedldlimpgaaTotals.lean).
  GIVEN WITH THE SEED: the statements are not yours to turn. If you find one false, say at which input.
  Laid BY PROGRAM, IN A SANDBOX (cutbox-rows.mjs): the forced cells as the released guide's own fill.sh prints them over the translation 4d56a584ae271b2c… (all of the seat's roots in one cut). By AI agents, Wed Nov 11 2026. No macro, syntax, notation, axiom, sorry.
-/
import Derived.Test.YtbliedldlimpgaaChecked
import GoSem.Claim
import GoSem.ClaimJoined
import GoSem.ClaimMapViews
import Derived.JoinedTies
import Derived.KernelRfl
namespace Go.Proofs.Ytbliedldlimpgaa
/- THE CELL 'sum', in the pinned program and in every row, IS THE sha256 OF THE DUMP (.gsa) THAT YtbliedldlimpgaaProg.lean LOADS. Nothing in Lean hashes anything: it is a label: what it is worth is what the hold of that sum in a sandbox is worth. -/
noncomputable def Try.pinned : Pinned := { name := "ytbliedldlimpgaa", sum := "4d56a584ae271b2ca07c698599a2b2f06e31476c01c3daa7c57bb20fe40a2cdc", checked := Try.checked }
namespace Rows
def none {H : Type} : Left H := { results := [], args := [] }

/-- 'clevislaw09.ImageMays': WHATEVER THE INPUT: true; the input reads as it did. -/
def imageMaysSpec : ChangeSpec := { name := "imageMays", fn := fun _ => fun
  | [d] => { results := [.lit (.bool true)], args := [d] }
  | _ => none }
def imageMaysRow : OpenClaim := { program := "ytbliedldlimpgaa", sum := "4d56a584ae271b2ca07c698599a2b2f06e31476c01c3daa7c57bb20fe40a2cdc", func := "clevis/clevislaw09.ImageMays", spec := "imageMays", apart := false }
def ImageMaysSaid : Prop := imageMaysRow.holds Try.pinned (OpenSpec.ofChange imageMaysSpec)

/-- ITS FALSE NEIGHBOUR: 'it returns false'. Refute it at one input. -/
def imageMaysWrong : ChangeSpec := { name := "imageMays", fn := fun _ => fun
  | [d] => { results := [.lit (.bool false)], args := [d] }
  | _ => none }
def ImageMaysWrongFalsely : Prop := imageMaysRow.holds Try.pinned (OpenSpec.ofChange imageMaysWrong)

/-- 'clevislaw09.ImageEncodes': WHATEVER THE INPUT: true; the input reads as it did. -/
def imageEncodesSpec : ChangeSpec := { name := "imageEncodes", fn := fun _ => fun
  | [d] => { results := [.lit (.bool true)], args := [d] }
  | _ => none }
def imageEncodesRow : OpenClaim := { program := "ytbliedldlimpgaa", sum := "4d56a584ae271b2ca07c698599a2b2f06e31476c01c3daa7c57bb20fe40a2cdc", func := "clevis/clevislaw09.ImageEncodes", spec := "imageEncodes", apart := false }
def ImageEncodesSaid : Prop := imageEncodesRow.holds Try.pinned (OpenSpec.ofChange imageEncodesSpec)

/-- ITS FALSE NEIGHBOUR: 'it returns false'. Refute it at one input. -/
def imageEncodesWrong : ChangeSpec := { name := "imageEncodes", fn := fun _ => fun
  | [d] => { results := [.lit (.bool false)], args := [d] }
  | _ => none }
def ImageEncodesWrongFalsely : Prop := imageEncodesRow.holds Try.pinned (OpenSpec.ofChange imageEncodesWrong)

/-- 'clevislaw09.ImageBack': WHATEVER THE INPUT: true; the input reads as it did. -/
def imageBackSpec : ChangeSpec := { name := "imageBack", fn := fun _ => fun
  | [d1, d2] => { results := [.lit (.bool true)], args := [d1, d2] }
  | _ => none }
def imageBackRow : OpenClaim := { program := "ytbliedldlimpgaa", sum := "4d56a584ae271b2ca07c698599a2b2f06e31476c01c3daa7c57bb20fe40a2cdc", func := "clevis/clevislaw09.ImageBack", spec := "imageBack", apart := false }
def ImageBackSaid : Prop := imageBackRow.holds Try.pinned (OpenSpec.ofChange imageBackSpec)

/-- ITS FALSE NEIGHBOUR: 'it returns false'. Refute it at one input. -/
def imageBackWrong : ChangeSpec := { name := "imageBack", fn := fun _ => fun
  | [d1, d2] => { results := [.lit (.bool false)], args := [d1, d2] }
  | _ => none }
def ImageBackWrongFalsely : Prop := imageBackRow.holds Try.pinned (OpenSpec.ofChange imageBackWrong)

/-- 'clevislaw09.ImageCut': WHATEVER THE INPUT: true; the input reads as it did. -/
def imageCutSpec : ChangeSpec := { name := "imageCut", fn := fun _ => fun
  | [d1, d2, d3] => { results := [.lit (.bool true)], args := [d1, d2, d3] }
  | _ => none }
def imageCutRow : OpenClaim := { program := "ytbliedldlimpgaa", sum := "4d56a584ae271b2ca07c698599a2b2f06e31476c01c3daa7c57bb20fe40a2cdc", func := "clevis/clevislaw09.ImageCut", spec := "imageCut", apart := false }
def ImageCutSaid : Prop := imageCutRow.holds Try.pinned (OpenSpec.ofChange imageCutSpec)

/-- ITS FALSE NEIGHBOUR: 'it returns false'. Refute it at one input. -/
def imageCutWrong : ChangeSpec := { name := "imageCut", fn := fun _ => fun
  | [d1, d2, d3] => { results := [.lit (.bool false)], args := [d1, d2, d3] }
  | _ => none }
def ImageCutWrongFalsely : Prop := imageCutRow.holds Try.pinned (OpenSpec.ofChange imageCutWrong)

/-- 'clevislaw09.ImageUnlike': WHATEVER THE INPUT: true; the input reads as it did. -/
def imageUnlikeSpec : ChangeSpec := { name := "imageUnlike", fn := fun _ => fun
  | [d1, d2, d3] => { results := [.lit (.bool true)], args := [d1, d2, d3] }
  | _ => none }
def imageUnlikeRow : OpenClaim := { program := "ytbliedldlimpgaa", sum := "4d56a584ae271b2ca07c698599a2b2f06e31476c01c3daa7c57bb20fe40a2cdc", func := "clevis/clevislaw09.ImageUnlike", spec := "imageUnlike", apart := false }
def ImageUnlikeSaid : Prop := imageUnlikeRow.holds Try.pinned (OpenSpec.ofChange imageUnlikeSpec)

/-- ITS FALSE NEIGHBOUR: 'it returns false'. Refute it at one input. -/
def imageUnlikeWrong : ChangeSpec := { name := "imageUnlike", fn := fun _ => fun
  | [d1, d2, d3] => { results := [.lit (.bool false)], args := [d1, d2, d3] }
  | _ => none }
def ImageUnlikeWrongFalsely : Prop := imageUnlikeRow.holds Try.pinned (OpenSpec.ofChange imageUnlikeWrong)

/-- 'clevislaw09.ImageParts': WHATEVER THE INPUT: true; the input reads as it did. -/
def imagePartsSpec : ChangeSpec := { name := "imageParts", fn := fun _ => fun
  | [d] => { results := [.lit (.bool true)], args := [d] }
  | _ => none }
def imagePartsRow : OpenClaim := { program := "ytbliedldlimpgaa", sum := "4d56a584ae271b2ca07c698599a2b2f06e31476c01c3daa7c57bb20fe40a2cdc", func := "clevis/clevislaw09.ImageParts", spec := "imageParts", apart := false }
def ImagePartsSaid : Prop := imagePartsRow.holds Try.pinned (OpenSpec.ofChange imagePartsSpec)

/-- ITS FALSE NEIGHBOUR: 'it returns false'. Refute it at one input. -/
def imagePartsWrong : ChangeSpec := { name := "imageParts", fn := fun _ => fun
  | [d] => { results := [.lit (.bool false)], args := [d] }
  | _ => none }
def ImagePartsWrongFalsely : Prop := imagePartsRow.holds Try.pinned (OpenSpec.ofChange imagePartsWrong)

/- THE SECOND FORM. 'bulk': how many values and letters a reading holds, each counted each time it is reached (what is shared counts as often as it is met; a slice's spare places count too). A statement '..UptoSaid' is the law's where the arguments, and the package variables that the reading takes, are together of bulk at most 1048576: NARROWER than '..Said'. Prove '..Said' where nothing that the law and all that it calls make is longer than what came in: it says more and counts as full. Else prove '..UptoSaid'. A law counts once. -/
mutual
def uptoBulk {H : Type} : DataW H → Nat
  | .lit (.string bytes) => bytes.length + 1
  | .lit _ => 1
  | .nil => 1
  | .ptr d => uptoBulk d + 1
  | .slice elems spare => uptoBulkAll elems + uptoBulkAll spare + 1
  | .agg parts => uptoBulkAll parts + 1
  | .iface _ d => uptoBulk d + 1
  | .map entries => uptoBulkEntries entries + 1
  | .held _ => 1
def uptoBulkAll {H : Type} : List (DataW H) → Nat
  | [] => 0
  | d :: r => uptoBulk d + uptoBulkAll r
def uptoBulkEntries {H : Type} : List (Lit × DataW H) → Nat
  | [] => 0
  | x :: r => uptoBulkEntry x + uptoBulkEntries r
def uptoBulkEntry {H : Type} : Lit × DataW H → Nat
  | (.string bytes, d) => bytes.length + uptoBulk d + 1
  | (_, d) => uptoBulk d + 1
 end
def uptoSmall : (H : Type) → List (DataW H) → Bool := fun _ ds => decide (uptoBulkAll ds ≤ 1048576)
def OpenSpec.upto (s : _root_.Go.ChangeSpec) : _root_.Go.OpenSpec := { _root_.Go.OpenSpec.ofChange s with cond := some uptoSmall }

/-- 'clevislaw09.ImageMays', WHERE WHAT IT READS IS OF BULK AT MOST 1048576: true; the input reads as it did. -/
def imageMaysUptoRow : OpenClaim := { program := "ytbliedldlimpgaa", sum := "4d56a584ae271b2ca07c698599a2b2f06e31476c01c3daa7c57bb20fe40a2cdc", func := "clevis/clevislaw09.ImageMays", spec := "imageMays", apart := false, narrowed := true }
def ImageMaysUptoSaid : Prop := imageMaysUptoRow.holds Try.pinned (OpenSpec.upto imageMaysSpec)

/-- 'clevislaw09.ImageEncodes', WHERE WHAT IT READS IS OF BULK AT MOST 1048576: true; the input reads as it did. -/
def imageEncodesUptoRow : OpenClaim := { program := "ytbliedldlimpgaa", sum := "4d56a584ae271b2ca07c698599a2b2f06e31476c01c3daa7c57bb20fe40a2cdc", func := "clevis/clevislaw09.ImageEncodes", spec := "imageEncodes", apart := false, narrowed := true }
def ImageEncodesUptoSaid : Prop := imageEncodesUptoRow.holds Try.pinned (OpenSpec.upto imageEncodesSpec)

/-- 'clevislaw09.ImageBack', WHERE WHAT IT READS IS OF BULK AT MOST 1048576: true; the input reads as it did. -/
def imageBackUptoRow : OpenClaim := { program := "ytbliedldlimpgaa", sum := "4d56a584ae271b2ca07c698599a2b2f06e31476c01c3daa7c57bb20fe40a2cdc", func := "clevis/clevislaw09.ImageBack", spec := "imageBack", apart := false, narrowed := true }
def ImageBackUptoSaid : Prop := imageBackUptoRow.holds Try.pinned (OpenSpec.upto imageBackSpec)

/-- 'clevislaw09.ImageCut', WHERE WHAT IT READS IS OF BULK AT MOST 1048576: true; the input reads as it did. -/
def imageCutUptoRow : OpenClaim := { program := "ytbliedldlimpgaa", sum := "4d56a584ae271b2ca07c698599a2b2f06e31476c01c3daa7c57bb20fe40a2cdc", func := "clevis/clevislaw09.ImageCut", spec := "imageCut", apart := false, narrowed := true }
def ImageCutUptoSaid : Prop := imageCutUptoRow.holds Try.pinned (OpenSpec.upto imageCutSpec)

/-- 'clevislaw09.ImageUnlike', WHERE WHAT IT READS IS OF BULK AT MOST 1048576: true; the input reads as it did. -/
def imageUnlikeUptoRow : OpenClaim := { program := "ytbliedldlimpgaa", sum := "4d56a584ae271b2ca07c698599a2b2f06e31476c01c3daa7c57bb20fe40a2cdc", func := "clevis/clevislaw09.ImageUnlike", spec := "imageUnlike", apart := false, narrowed := true }
def ImageUnlikeUptoSaid : Prop := imageUnlikeUptoRow.holds Try.pinned (OpenSpec.upto imageUnlikeSpec)

/-- 'clevislaw09.ImageParts', WHERE WHAT IT READS IS OF BULK AT MOST 1048576: true; the input reads as it did. -/
def imagePartsUptoRow : OpenClaim := { program := "ytbliedldlimpgaa", sum := "4d56a584ae271b2ca07c698599a2b2f06e31476c01c3daa7c57bb20fe40a2cdc", func := "clevis/clevislaw09.ImageParts", spec := "imageParts", apart := false, narrowed := true }
def ImagePartsUptoSaid : Prop := imagePartsUptoRow.holds Try.pinned (OpenSpec.upto imagePartsSpec)

end Rows
end Go.Proofs.Ytbliedldlimpgaa
