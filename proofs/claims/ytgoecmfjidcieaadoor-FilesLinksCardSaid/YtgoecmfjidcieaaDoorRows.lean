/-
  NARROWER THAN 'FOR EVERY INPUT', by the rows' own cells (each row's printed sentence says how): FilesCleans: laid · FilesIdem: laid · FilesKeeps: laid · FilesLinks: laid · FilesRefused: laid.
  DERIVED. THE GIVEN ROWS OF THIS SEAT. 5 by the template 'for every input the law returns true; each argument reads behind the call as it read before'; 0 by the template 'total and deterministic' (their statements: YtgoecmfjidcieaaDoorTotals.lean).
  GIVEN WITH THE SEED: the statements are not yours to turn. If you find one false, say at which input.
  Laid BY PROGRAM, IN A SANDBOX (cutbox-rows.mjs): the forced cells as the released guide's own fill.sh prints them over the translation 27781926a9e9dc94… (all of the seat's roots in one cut). By AI agents, Wed Nov 11 2026. No macro, syntax, notation, axiom, sorry.
-/
import Derived.Test.YtgoecmfjidcieaaDoorChecked
import GoSem.PinnedTables
import GoSem.Claim
import GoSem.ClaimJoined
import GoSem.ClaimMapViews
import Derived.JoinedTies
import Derived.KernelRfl
namespace Go.Proofs.YtgoecmfjidcieaaDoor
/- THE CELL 'sum', in the pinned program and in every row, IS THE sha256 OF THE DUMP (.gsa) THAT YtgoecmfjidcieaaDoorProg.lean LOADS. Nothing in Lean hashes anything: it is a label: what it is worth is what the hold of that sum in a sandbox is worth. -/
noncomputable def Tryd.pinned : Pinned := { name := "ytgoecmfjidcieaadoor", sum := "27781926a9e9dc949ae593f4aa92bd79bffc03fa41bd3821333b680d86804eaf", checked := Tryd.checked }
namespace Rows
def none {H : Type} : Left H := { results := [], args := [] }

/- WHAT THE LISTED PACKAGE-LEVEL VARIABLES READ AS WHEN THE CALL BEGINS. Each datum BY PROGRAM (the guide's laid-datum.mjs) off the statement by which the dump's own 'gosem.cut.vars' lays the variable. In a bare row this is a premise. The card (YtgoecmfjidcieaaDoorCards.lean) ties it to the program's text. -/
def laid_unicode_utf8_acceptRanges {H : Type} : DataW H := .agg [.agg [.lit (.int .u8 128), .lit (.int .u8 191)], .agg [.lit (.int .u8 160), .lit (.int .u8 191)], .agg [.lit (.int .u8 128), .lit (.int .u8 159)], .agg [.lit (.int .u8 144), .lit (.int .u8 191)], .agg [.lit (.int .u8 128), .lit (.int .u8 143)], .agg [.lit (.int .u8 0), .lit (.int .u8 0)], .agg [.lit (.int .u8 0), .lit (.int .u8 0)], .agg [.lit (.int .u8 0), .lit (.int .u8 0)], .agg [.lit (.int .u8 0), .lit (.int .u8 0)], .agg [.lit (.int .u8 0), .lit (.int .u8 0)], .agg [.lit (.int .u8 0), .lit (.int .u8 0)], .agg [.lit (.int .u8 0), .lit (.int .u8 0)], .agg [.lit (.int .u8 0), .lit (.int .u8 0)], .agg [.lit (.int .u8 0), .lit (.int .u8 0)], .agg [.lit (.int .u8 0), .lit (.int .u8 0)], .agg [.lit (.int .u8 0), .lit (.int .u8 0)]]
/-- One of Go's own tables, pinned by name: the form's constant. -/
def laid_unicode_utf8_first : DataW Unit := Go.Pinned.utf8First

/-- 'clevislaw03.FilesCleans': WHATEVER THE INPUT: true; the input reads as it did. -/
def filesCleansSpec : ChangeSpec := { name := "filesCleans", fn := fun _ => fun
  | [d] => { results := [.lit (.bool true)], args := [d] }
  | _ => none }
def filesCleansRow : OpenClaim := { program := "ytgoecmfjidcieaadoor", sum := "27781926a9e9dc949ae593f4aa92bd79bffc03fa41bd3821333b680d86804eaf", func := "clevis/clevislaw03.FilesCleans", spec := "filesCleans", inPlace := ["internal/bytealg.CountString", "internal/bytealg.IndexByteString", "internal/bytealg.IndexString", "internal/abi.NoEscape", "internal/bytealg.MakeNoZero"], named := ["unicode/utf8.first", "unicode/utf8.acceptRanges", "internal/bytealg.MaxLen"], apart := false, laid := [("unicode/utf8.acceptRanges", laid_unicode_utf8_acceptRanges), ("unicode/utf8.first", laid_unicode_utf8_first)] }
def FilesCleansSaid : Prop := filesCleansRow.holds Tryd.pinned (OpenSpec.ofChange filesCleansSpec)

/-- ITS FALSE NEIGHBOUR: 'it returns false'. Refute it at one input. -/
def filesCleansWrong : ChangeSpec := { name := "filesCleans", fn := fun _ => fun
  | [d] => { results := [.lit (.bool false)], args := [d] }
  | _ => none }
def FilesCleansWrongFalsely : Prop := filesCleansRow.holds Tryd.pinned (OpenSpec.ofChange filesCleansWrong)

/-- 'clevislaw03.FilesIdem': WHATEVER THE INPUT: true; the input reads as it did. -/
def filesIdemSpec : ChangeSpec := { name := "filesIdem", fn := fun _ => fun
  | [d] => { results := [.lit (.bool true)], args := [d] }
  | _ => none }
def filesIdemRow : OpenClaim := { program := "ytgoecmfjidcieaadoor", sum := "27781926a9e9dc949ae593f4aa92bd79bffc03fa41bd3821333b680d86804eaf", func := "clevis/clevislaw03.FilesIdem", spec := "filesIdem", inPlace := ["internal/bytealg.CountString", "internal/bytealg.IndexByteString", "internal/bytealg.IndexString", "internal/abi.NoEscape", "internal/bytealg.MakeNoZero"], named := ["unicode/utf8.first", "unicode/utf8.acceptRanges", "internal/bytealg.MaxLen"], apart := false, laid := [("unicode/utf8.acceptRanges", laid_unicode_utf8_acceptRanges), ("unicode/utf8.first", laid_unicode_utf8_first)] }
def FilesIdemSaid : Prop := filesIdemRow.holds Tryd.pinned (OpenSpec.ofChange filesIdemSpec)

/-- ITS FALSE NEIGHBOUR: 'it returns false'. Refute it at one input. -/
def filesIdemWrong : ChangeSpec := { name := "filesIdem", fn := fun _ => fun
  | [d] => { results := [.lit (.bool false)], args := [d] }
  | _ => none }
def FilesIdemWrongFalsely : Prop := filesIdemRow.holds Tryd.pinned (OpenSpec.ofChange filesIdemWrong)

/-- 'clevislaw03.FilesKeeps': WHATEVER THE INPUT: true; the input reads as it did. -/
def filesKeepsSpec : ChangeSpec := { name := "filesKeeps", fn := fun _ => fun
  | [d1, d2, d3, d4] => { results := [.lit (.bool true)], args := [d1, d2, d3, d4] }
  | _ => none }
def filesKeepsRow : OpenClaim := { program := "ytgoecmfjidcieaadoor", sum := "27781926a9e9dc949ae593f4aa92bd79bffc03fa41bd3821333b680d86804eaf", func := "clevis/clevislaw03.FilesKeeps", spec := "filesKeeps", inPlace := ["internal/bytealg.CountString", "internal/bytealg.IndexByteString", "internal/bytealg.IndexString", "internal/abi.NoEscape", "internal/bytealg.MakeNoZero"], recurses := true, named := ["unicode/utf8.first", "unicode/utf8.acceptRanges", "internal/bytealg.MaxLen"], apart := false, laid := [("unicode/utf8.acceptRanges", laid_unicode_utf8_acceptRanges), ("unicode/utf8.first", laid_unicode_utf8_first)] }
def FilesKeepsSaid : Prop := filesKeepsRow.holds Tryd.pinned (OpenSpec.ofChange filesKeepsSpec)

/-- ITS FALSE NEIGHBOUR: 'it returns false'. Refute it at one input. -/
def filesKeepsWrong : ChangeSpec := { name := "filesKeeps", fn := fun _ => fun
  | [d1, d2, d3, d4] => { results := [.lit (.bool false)], args := [d1, d2, d3, d4] }
  | _ => none }
def FilesKeepsWrongFalsely : Prop := filesKeepsRow.holds Tryd.pinned (OpenSpec.ofChange filesKeepsWrong)

/-- 'clevislaw03.FilesLinks': WHATEVER THE INPUT: true; the input reads as it did. -/
def filesLinksSpec : ChangeSpec := { name := "filesLinks", fn := fun _ => fun
  | [d1, d2] => { results := [.lit (.bool true)], args := [d1, d2] }
  | _ => none }
def filesLinksRow : OpenClaim := { program := "ytgoecmfjidcieaadoor", sum := "27781926a9e9dc949ae593f4aa92bd79bffc03fa41bd3821333b680d86804eaf", func := "clevis/clevislaw03.FilesLinks", spec := "filesLinks", inPlace := ["internal/bytealg.CountString", "internal/bytealg.IndexByteString", "internal/bytealg.IndexString", "internal/abi.NoEscape", "internal/bytealg.MakeNoZero"], recurses := true, named := ["unicode/utf8.first", "unicode/utf8.acceptRanges", "internal/bytealg.MaxLen"], apart := false, laid := [("unicode/utf8.acceptRanges", laid_unicode_utf8_acceptRanges), ("unicode/utf8.first", laid_unicode_utf8_first)] }
def FilesLinksSaid : Prop := filesLinksRow.holds Tryd.pinned (OpenSpec.ofChange filesLinksSpec)

/-- ITS FALSE NEIGHBOUR: 'it returns false'. Refute it at one input. -/
def filesLinksWrong : ChangeSpec := { name := "filesLinks", fn := fun _ => fun
  | [d1, d2] => { results := [.lit (.bool false)], args := [d1, d2] }
  | _ => none }
def FilesLinksWrongFalsely : Prop := filesLinksRow.holds Tryd.pinned (OpenSpec.ofChange filesLinksWrong)

/-- 'clevislaw03.FilesRefused': WHATEVER THE INPUT: true; the input reads as it did. -/
def filesRefusedSpec : ChangeSpec := { name := "filesRefused", fn := fun _ => fun
  | [d1, d2, d3] => { results := [.lit (.bool true)], args := [d1, d2, d3] }
  | _ => none }
def filesRefusedRow : OpenClaim := { program := "ytgoecmfjidcieaadoor", sum := "27781926a9e9dc949ae593f4aa92bd79bffc03fa41bd3821333b680d86804eaf", func := "clevis/clevislaw03.FilesRefused", spec := "filesRefused", inPlace := ["internal/bytealg.CountString", "internal/bytealg.IndexByteString", "internal/bytealg.IndexString", "internal/abi.NoEscape", "internal/bytealg.MakeNoZero", "maps.clone"], recurses := true, named := ["unicode/utf8.first", "unicode/utf8.acceptRanges", "internal/bytealg.MaxLen"], apart := false, laid := [("unicode/utf8.acceptRanges", laid_unicode_utf8_acceptRanges), ("unicode/utf8.first", laid_unicode_utf8_first)] }
def FilesRefusedSaid : Prop := filesRefusedRow.holds Tryd.pinned (OpenSpec.ofChange filesRefusedSpec)

/-- ITS FALSE NEIGHBOUR: 'it returns false'. Refute it at one input. -/
def filesRefusedWrong : ChangeSpec := { name := "filesRefused", fn := fun _ => fun
  | [d1, d2, d3] => { results := [.lit (.bool false)], args := [d1, d2, d3] }
  | _ => none }
def FilesRefusedWrongFalsely : Prop := filesRefusedRow.holds Tryd.pinned (OpenSpec.ofChange filesRefusedWrong)

/- THE SECOND FORM. 'bulk': how many values and letters a reading holds, each counted each time it is reached (what is shared counts as often as it is met; a slice's spare places count too). A statement '..UptoSaid' is the law's where the arguments, and the package variables that the reading takes, are together of bulk at most 1048576: NARROWER than '..Said'. Prove '..Said' where nothing that the law and all that it calls make is longer than what came in: it says more and counts as full. Else prove '..UptoSaid'. A law counts once. -/
mutual
def uptoBulk {H : Type} : DataW H → Nat
  | .lit (.string bytes) => bytes.length + 1
  | .lit _ => 1
  | .nil => 1
  | .ptr d => uptoBulk d + 1
  | .slice elems spare => uptoBulkAll elems + uptoBulkAll spare + 1
  | .agg parts => uptoBulkAll parts + 1
  | .iface _ d => uptoBulk d + 1
  | .map entries => uptoBulkEntries entries + 1
  | .held _ => 1
def uptoBulkAll {H : Type} : List (DataW H) → Nat
  | [] => 0
  | d :: r => uptoBulk d + uptoBulkAll r
def uptoBulkEntries {H : Type} : List (Lit × DataW H) → Nat
  | [] => 0
  | x :: r => uptoBulkEntry x + uptoBulkEntries r
def uptoBulkEntry {H : Type} : Lit × DataW H → Nat
  | (.string bytes, d) => bytes.length + uptoBulk d + 1
  | (_, d) => uptoBulk d + 1
 end
def uptoSmall : (H : Type) → List (DataW H) → Bool := fun _ ds => decide (uptoBulkAll ds ≤ 1048576)
def OpenSpec.upto (s : _root_.Go.ChangeSpec) : _root_.Go.OpenSpec := { _root_.Go.OpenSpec.ofChange s with cond := some uptoSmall }

/-- 'clevislaw03.FilesCleans', WHERE WHAT IT READS IS OF BULK AT MOST 1048576: true; the input reads as it did. -/
def filesCleansUptoRow : OpenClaim := { program := "ytgoecmfjidcieaadoor", sum := "27781926a9e9dc949ae593f4aa92bd79bffc03fa41bd3821333b680d86804eaf", func := "clevis/clevislaw03.FilesCleans", spec := "filesCleans", inPlace := ["internal/bytealg.CountString", "internal/bytealg.IndexByteString", "internal/bytealg.IndexString", "internal/abi.NoEscape", "internal/bytealg.MakeNoZero"], named := ["unicode/utf8.first", "unicode/utf8.acceptRanges", "internal/bytealg.MaxLen"], apart := false, laid := [("unicode/utf8.acceptRanges", laid_unicode_utf8_acceptRanges), ("unicode/utf8.first", laid_unicode_utf8_first)], narrowed := true }
def FilesCleansUptoSaid : Prop := filesCleansUptoRow.holds Tryd.pinned (OpenSpec.upto filesCleansSpec)

/-- 'clevislaw03.FilesIdem', WHERE WHAT IT READS IS OF BULK AT MOST 1048576: true; the input reads as it did. -/
def filesIdemUptoRow : OpenClaim := { program := "ytgoecmfjidcieaadoor", sum := "27781926a9e9dc949ae593f4aa92bd79bffc03fa41bd3821333b680d86804eaf", func := "clevis/clevislaw03.FilesIdem", spec := "filesIdem", inPlace := ["internal/bytealg.CountString", "internal/bytealg.IndexByteString", "internal/bytealg.IndexString", "internal/abi.NoEscape", "internal/bytealg.MakeNoZero"], named := ["unicode/utf8.first", "unicode/utf8.acceptRanges", "internal/bytealg.MaxLen"], apart := false, laid := [("unicode/utf8.acceptRanges", laid_unicode_utf8_acceptRanges), ("unicode/utf8.first", laid_unicode_utf8_first)], narrowed := true }
def FilesIdemUptoSaid : Prop := filesIdemUptoRow.holds Tryd.pinned (OpenSpec.upto filesIdemSpec)

/-- 'clevislaw03.FilesKeeps', WHERE WHAT IT READS IS OF BULK AT MOST 1048576: true; the input reads as it did. -/
def filesKeepsUptoRow : OpenClaim := { program := "ytgoecmfjidcieaadoor", sum := "27781926a9e9dc949ae593f4aa92bd79bffc03fa41bd3821333b680d86804eaf", func := "clevis/clevislaw03.FilesKeeps", spec := "filesKeeps", inPlace := ["internal/bytealg.CountString", "internal/bytealg.IndexByteString", "internal/bytealg.IndexString", "internal/abi.NoEscape", "internal/bytealg.MakeNoZero"], recurses := true, named := ["unicode/utf8.first", "unicode/utf8.acceptRanges", "internal/bytealg.MaxLen"], apart := false, laid := [("unicode/utf8.acceptRanges", laid_unicode_utf8_acceptRanges), ("unicode/utf8.first", laid_unicode_utf8_first)], narrowed := true }
def FilesKeepsUptoSaid : Prop := filesKeepsUptoRow.holds Tryd.pinned (OpenSpec.upto filesKeepsSpec)

/-- 'clevislaw03.FilesLinks', WHERE WHAT IT READS IS OF BULK AT MOST 1048576: true; the input reads as it did. -/
def filesLinksUptoRow : OpenClaim := { program := "ytgoecmfjidcieaadoor", sum := "27781926a9e9dc949ae593f4aa92bd79bffc03fa41bd3821333b680d86804eaf", func := "clevis/clevislaw03.FilesLinks", spec := "filesLinks", inPlace := ["internal/bytealg.CountString", "internal/bytealg.IndexByteString", "internal/bytealg.IndexString", "internal/abi.NoEscape", "internal/bytealg.MakeNoZero"], recurses := true, named := ["unicode/utf8.first", "unicode/utf8.acceptRanges", "internal/bytealg.MaxLen"], apart := false, laid := [("unicode/utf8.acceptRanges", laid_unicode_utf8_acceptRanges), ("unicode/utf8.first", laid_unicode_utf8_first)], narrowed := true }
def FilesLinksUptoSaid : Prop := filesLinksUptoRow.holds Tryd.pinned (OpenSpec.upto filesLinksSpec)

/-- 'clevislaw03.FilesRefused', WHERE WHAT IT READS IS OF BULK AT MOST 1048576: true; the input reads as it did. -/
def filesRefusedUptoRow : OpenClaim := { program := "ytgoecmfjidcieaadoor", sum := "27781926a9e9dc949ae593f4aa92bd79bffc03fa41bd3821333b680d86804eaf", func := "clevis/clevislaw03.FilesRefused", spec := "filesRefused", inPlace := ["internal/bytealg.CountString", "internal/bytealg.IndexByteString", "internal/bytealg.IndexString", "internal/abi.NoEscape", "internal/bytealg.MakeNoZero", "maps.clone"], recurses := true, named := ["unicode/utf8.first", "unicode/utf8.acceptRanges", "internal/bytealg.MaxLen"], apart := false, laid := [("unicode/utf8.acceptRanges", laid_unicode_utf8_acceptRanges), ("unicode/utf8.first", laid_unicode_utf8_first)], narrowed := true }
def FilesRefusedUptoSaid : Prop := filesRefusedUptoRow.holds Tryd.pinned (OpenSpec.upto filesRefusedSpec)

end Rows
end Go.Proofs.YtgoecmfjidcieaaDoor
