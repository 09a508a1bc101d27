/-
  No cell of these rows narrows 'for every input' (looked for: loops, veiled, ifaces, maps, wideKeys, modest, calm, conditions, laid).
  DERIVED. THE GIVEN ROWS OF THIS SEAT. 11 by the template 'for every input the law returns true; each argument reads behind the call as it read before'; 0 by the template 'total and deterministic' (their statements: YtplhmhclcfclhaaTotals.lean).
  GIVEN WITH THE SEED: the statements are not yours to turn. If you find one false, say at which input.
  Laid BY PROGRAM, IN A SANDBOX (cutbox-rows.mjs): the forced cells as the released guide's own fill.sh prints them over the translation 3ad5572db3982272… (all of the seat's roots in one cut). By AI agents, Wed Nov 11 2026. No macro, syntax, notation, axiom, sorry.
-/
import Derived.Test.YtplhmhclcfclhaaChecked
import GoSem.Claim
import GoSem.ClaimJoined
import GoSem.ClaimMapViews
import Derived.JoinedTies
import Derived.KernelRfl
namespace Go.Proofs.Ytplhmhclcfclhaa
/- THE CELL 'sum', in the pinned program and in every row, IS THE sha256 OF THE DUMP (.gsa) THAT YtplhmhclcfclhaaProg.lean LOADS. Nothing in Lean hashes anything: it is a label: what it is worth is what the hold of that sum in a sandbox is worth. -/
noncomputable def Try.pinned : Pinned := { name := "ytplhmhclcfclhaa", sum := "3ad5572db3982272e76ba4bcc251b68712a0867b54da17cb05d82e5d91512452", checked := Try.checked }
namespace Rows
def none {H : Type} : Left H := { results := [], args := [] }

/-- 'hibernaclelaw01.NumRows': WHATEVER THE INPUT: true; the input reads as it did. -/
def numRowsSpec : ChangeSpec := { name := "numRows", fn := fun _ => fun
  | [d] => { results := [.lit (.bool true)], args := [d] }
  | _ => none }
def numRowsRow : OpenClaim := { program := "ytplhmhclcfclhaa", sum := "3ad5572db3982272e76ba4bcc251b68712a0867b54da17cb05d82e5d91512452", func := "hibernacle/hibernaclelaw01.NumRows", spec := "numRows", inPlace := ["internal/abi.NoEscape", "internal/bytealg.MakeNoZero"], recurses := true, apart := false }
def NumRowsSaid : Prop := numRowsRow.holds Try.pinned (OpenSpec.ofChange numRowsSpec)

/-- ITS FALSE NEIGHBOUR: 'it returns false'. Refute it at one input. -/
def numRowsWrong : ChangeSpec := { name := "numRows", fn := fun _ => fun
  | [d] => { results := [.lit (.bool false)], args := [d] }
  | _ => none }
def NumRowsWrongFalsely : Prop := numRowsRow.holds Try.pinned (OpenSpec.ofChange numRowsWrong)

/-- 'hibernaclelaw01.NumTexts': WHATEVER THE INPUT: true; the input reads as it did. -/
def numTextsSpec : ChangeSpec := { name := "numTexts", fn := fun _ => fun
  | [d] => { results := [.lit (.bool true)], args := [d] }
  | _ => none }
def numTextsRow : OpenClaim := { program := "ytplhmhclcfclhaa", sum := "3ad5572db3982272e76ba4bcc251b68712a0867b54da17cb05d82e5d91512452", func := "hibernacle/hibernaclelaw01.NumTexts", spec := "numTexts", inPlace := ["internal/abi.NoEscape", "internal/bytealg.MakeNoZero"], apart := false }
def NumTextsSaid : Prop := numTextsRow.holds Try.pinned (OpenSpec.ofChange numTextsSpec)

/-- ITS FALSE NEIGHBOUR: 'it returns false'. Refute it at one input. -/
def numTextsWrong : ChangeSpec := { name := "numTexts", fn := fun _ => fun
  | [d] => { results := [.lit (.bool false)], args := [d] }
  | _ => none }
def NumTextsWrongFalsely : Prop := numTextsRow.holds Try.pinned (OpenSpec.ofChange numTextsWrong)

/-- 'hibernaclelaw01.NumApart': WHATEVER THE INPUT: true; the input reads as it did. -/
def numApartSpec : ChangeSpec := { name := "numApart", fn := fun _ => fun
  | [d1, d2, d3] => { results := [.lit (.bool true)], args := [d1, d2, d3] }
  | _ => none }
def numApartRow : OpenClaim := { program := "ytplhmhclcfclhaa", sum := "3ad5572db3982272e76ba4bcc251b68712a0867b54da17cb05d82e5d91512452", func := "hibernacle/hibernaclelaw01.NumApart", spec := "numApart", inPlace := ["internal/abi.NoEscape", "internal/bytealg.MakeNoZero"], apart := false }
def NumApartSaid : Prop := numApartRow.holds Try.pinned (OpenSpec.ofChange numApartSpec)

/-- ITS FALSE NEIGHBOUR: 'it returns false'. Refute it at one input. -/
def numApartWrong : ChangeSpec := { name := "numApart", fn := fun _ => fun
  | [d1, d2, d3] => { results := [.lit (.bool false)], args := [d1, d2, d3] }
  | _ => none }
def NumApartWrongFalsely : Prop := numApartRow.holds Try.pinned (OpenSpec.ofChange numApartWrong)

/-- 'hibernaclelaw01.NumNests': WHATEVER THE INPUT: true; the input reads as it did. -/
def numNestsSpec : ChangeSpec := { name := "numNests", fn := fun _ => fun
  | [d] => { results := [.lit (.bool true)], args := [d] }
  | _ => none }
def numNestsRow : OpenClaim := { program := "ytplhmhclcfclhaa", sum := "3ad5572db3982272e76ba4bcc251b68712a0867b54da17cb05d82e5d91512452", func := "hibernacle/hibernaclelaw01.NumNests", spec := "numNests", inPlace := ["internal/abi.NoEscape", "internal/bytealg.MakeNoZero"], apart := false }
def NumNestsSaid : Prop := numNestsRow.holds Try.pinned (OpenSpec.ofChange numNestsSpec)

/-- ITS FALSE NEIGHBOUR: 'it returns false'. Refute it at one input. -/
def numNestsWrong : ChangeSpec := { name := "numNests", fn := fun _ => fun
  | [d] => { results := [.lit (.bool false)], args := [d] }
  | _ => none }
def NumNestsWrongFalsely : Prop := numNestsRow.holds Try.pinned (OpenSpec.ofChange numNestsWrong)

/-- 'hibernaclelaw01.NumBytes': WHATEVER THE INPUT: true; the input reads as it did. -/
def numBytesSpec : ChangeSpec := { name := "numBytes", fn := fun _ => fun
  | [d1, d2, d3] => { results := [.lit (.bool true)], args := [d1, d2, d3] }
  | _ => none }
def numBytesRow : OpenClaim := { program := "ytplhmhclcfclhaa", sum := "3ad5572db3982272e76ba4bcc251b68712a0867b54da17cb05d82e5d91512452", func := "hibernacle/hibernaclelaw01.NumBytes", spec := "numBytes", inPlace := ["internal/abi.NoEscape", "internal/bytealg.MakeNoZero"], apart := false }
def NumBytesSaid : Prop := numBytesRow.holds Try.pinned (OpenSpec.ofChange numBytesSpec)

/-- ITS FALSE NEIGHBOUR: 'it returns false'. Refute it at one input. -/
def numBytesWrong : ChangeSpec := { name := "numBytes", fn := fun _ => fun
  | [d1, d2, d3] => { results := [.lit (.bool false)], args := [d1, d2, d3] }
  | _ => none }
def NumBytesWrongFalsely : Prop := numBytesRow.holds Try.pinned (OpenSpec.ofChange numBytesWrong)

/-- 'hibernaclelaw12.ExeLays': WHATEVER THE INPUT: true; the input reads as it did. -/
def exeLaysSpec : ChangeSpec := { name := "exeLays", fn := fun _ => fun
  | [d] => { results := [.lit (.bool true)], args := [d] }
  | _ => none }
def exeLaysRow : OpenClaim := { program := "ytplhmhclcfclhaa", sum := "3ad5572db3982272e76ba4bcc251b68712a0867b54da17cb05d82e5d91512452", func := "hibernacle/hibernaclelaw12.ExeLays", spec := "exeLays", inPlace := ["internal/abi.NoEscape", "internal/bytealg.MakeNoZero"], unfollowed := true, recurses := true, apart := false }
def ExeLaysSaid : Prop := exeLaysRow.holds Try.pinned (OpenSpec.ofChange exeLaysSpec)

/-- ITS FALSE NEIGHBOUR: 'it returns false'. Refute it at one input. -/
def exeLaysWrong : ChangeSpec := { name := "exeLays", fn := fun _ => fun
  | [d] => { results := [.lit (.bool false)], args := [d] }
  | _ => none }
def ExeLaysWrongFalsely : Prop := exeLaysRow.holds Try.pinned (OpenSpec.ofChange exeLaysWrong)

/-- 'hibernaclelaw12.ExePages': WHATEVER THE INPUT: true; the input reads as it did. -/
def exePagesSpec : ChangeSpec := { name := "exePages", fn := fun _ => fun
  | [d] => { results := [.lit (.bool true)], args := [d] }
  | _ => none }
def exePagesRow : OpenClaim := { program := "ytplhmhclcfclhaa", sum := "3ad5572db3982272e76ba4bcc251b68712a0867b54da17cb05d82e5d91512452", func := "hibernacle/hibernaclelaw12.ExePages", spec := "exePages", inPlace := ["internal/abi.NoEscape", "internal/bytealg.MakeNoZero"], unfollowed := true, recurses := true, apart := false }
def ExePagesSaid : Prop := exePagesRow.holds Try.pinned (OpenSpec.ofChange exePagesSpec)

/-- ITS FALSE NEIGHBOUR: 'it returns false'. Refute it at one input. -/
def exePagesWrong : ChangeSpec := { name := "exePages", fn := fun _ => fun
  | [d] => { results := [.lit (.bool false)], args := [d] }
  | _ => none }
def ExePagesWrongFalsely : Prop := exePagesRow.holds Try.pinned (OpenSpec.ofChange exePagesWrong)

/-- 'hibernaclelaw12.ExeBytes': WHATEVER THE INPUT: true; the input reads as it did. -/
def exeBytesSpec : ChangeSpec := { name := "exeBytes", fn := fun _ => fun
  | [d] => { results := [.lit (.bool true)], args := [d] }
  | _ => none }
def exeBytesRow : OpenClaim := { program := "ytplhmhclcfclhaa", sum := "3ad5572db3982272e76ba4bcc251b68712a0867b54da17cb05d82e5d91512452", func := "hibernacle/hibernaclelaw12.ExeBytes", spec := "exeBytes", inPlace := ["internal/abi.NoEscape", "internal/bytealg.MakeNoZero"], unfollowed := true, recurses := true, apart := false }
def ExeBytesSaid : Prop := exeBytesRow.holds Try.pinned (OpenSpec.ofChange exeBytesSpec)

/-- ITS FALSE NEIGHBOUR: 'it returns false'. Refute it at one input. -/
def exeBytesWrong : ChangeSpec := { name := "exeBytes", fn := fun _ => fun
  | [d] => { results := [.lit (.bool false)], args := [d] }
  | _ => none }
def ExeBytesWrongFalsely : Prop := exeBytesRow.holds Try.pinned (OpenSpec.ofChange exeBytesWrong)

/-- 'hibernaclelaw12.ExeReads': WHATEVER THE INPUT: true; the input reads as it did. -/
def exeReadsSpec : ChangeSpec := { name := "exeReads", fn := fun _ => fun
  | [d] => { results := [.lit (.bool true)], args := [d] }
  | _ => none }
def exeReadsRow : OpenClaim := { program := "ytplhmhclcfclhaa", sum := "3ad5572db3982272e76ba4bcc251b68712a0867b54da17cb05d82e5d91512452", func := "hibernacle/hibernaclelaw12.ExeReads", spec := "exeReads", inPlace := ["internal/abi.NoEscape", "internal/bytealg.MakeNoZero"], unfollowed := true, recurses := true, apart := false }
def ExeReadsSaid : Prop := exeReadsRow.holds Try.pinned (OpenSpec.ofChange exeReadsSpec)

/-- ITS FALSE NEIGHBOUR: 'it returns false'. Refute it at one input. -/
def exeReadsWrong : ChangeSpec := { name := "exeReads", fn := fun _ => fun
  | [d] => { results := [.lit (.bool false)], args := [d] }
  | _ => none }
def ExeReadsWrongFalsely : Prop := exeReadsRow.holds Try.pinned (OpenSpec.ofChange exeReadsWrong)

/-- 'hibernaclelaw12.ExeCuts': WHATEVER THE INPUT: true; the input reads as it did. -/
def exeCutsSpec : ChangeSpec := { name := "exeCuts", fn := fun _ => fun
  | [d1, d2] => { results := [.lit (.bool true)], args := [d1, d2] }
  | _ => none }
def exeCutsRow : OpenClaim := { program := "ytplhmhclcfclhaa", sum := "3ad5572db3982272e76ba4bcc251b68712a0867b54da17cb05d82e5d91512452", func := "hibernacle/hibernaclelaw12.ExeCuts", spec := "exeCuts", inPlace := ["internal/abi.NoEscape", "internal/bytealg.MakeNoZero"], unfollowed := true, recurses := true, apart := false }
def ExeCutsSaid : Prop := exeCutsRow.holds Try.pinned (OpenSpec.ofChange exeCutsSpec)

/-- ITS FALSE NEIGHBOUR: 'it returns false'. Refute it at one input. -/
def exeCutsWrong : ChangeSpec := { name := "exeCuts", fn := fun _ => fun
  | [d1, d2] => { results := [.lit (.bool false)], args := [d1, d2] }
  | _ => none }
def ExeCutsWrongFalsely : Prop := exeCutsRow.holds Try.pinned (OpenSpec.ofChange exeCutsWrong)

/-- 'hibernaclelaw12.ExeWords': WHATEVER THE INPUT: true; the input reads as it did. -/
def exeWordsSpec : ChangeSpec := { name := "exeWords", fn := fun _ => fun
  | [d] => { results := [.lit (.bool true)], args := [d] }
  | _ => none }
def exeWordsRow : OpenClaim := { program := "ytplhmhclcfclhaa", sum := "3ad5572db3982272e76ba4bcc251b68712a0867b54da17cb05d82e5d91512452", func := "hibernacle/hibernaclelaw12.ExeWords", spec := "exeWords", inPlace := ["internal/abi.NoEscape", "internal/bytealg.MakeNoZero"], unfollowed := true, recurses := true, apart := false }
def ExeWordsSaid : Prop := exeWordsRow.holds Try.pinned (OpenSpec.ofChange exeWordsSpec)

/-- ITS FALSE NEIGHBOUR: 'it returns false'. Refute it at one input. -/
def exeWordsWrong : ChangeSpec := { name := "exeWords", fn := fun _ => fun
  | [d] => { results := [.lit (.bool false)], args := [d] }
  | _ => none }
def ExeWordsWrongFalsely : Prop := exeWordsRow.holds Try.pinned (OpenSpec.ofChange exeWordsWrong)

/- THE SECOND FORM. 'bulk': how many values and letters a reading holds, each counted each time it is reached (what is shared counts as often as it is met; a slice's spare places count too). A statement '..UptoSaid' is the law's where the arguments, and the package variables that the reading takes, are together of bulk at most 1048576: NARROWER than '..Said'. Prove '..Said' where nothing that the law and all that it calls make is longer than what came in: it says more and counts as full. Else prove '..UptoSaid'. A law counts once. -/
mutual
def uptoBulk {H : Type} : DataW H → Nat
  | .lit (.string bytes) => bytes.length + 1
  | .lit _ => 1
  | .nil => 1
  | .ptr d => uptoBulk d + 1
  | .slice elems spare => uptoBulkAll elems + uptoBulkAll spare + 1
  | .agg parts => uptoBulkAll parts + 1
  | .iface _ d => uptoBulk d + 1
  | .map entries => uptoBulkEntries entries + 1
  | .held _ => 1
def uptoBulkAll {H : Type} : List (DataW H) → Nat
  | [] => 0
  | d :: r => uptoBulk d + uptoBulkAll r
def uptoBulkEntries {H : Type} : List (Lit × DataW H) → Nat
  | [] => 0
  | x :: r => uptoBulkEntry x + uptoBulkEntries r
def uptoBulkEntry {H : Type} : Lit × DataW H → Nat
  | (.string bytes, d) => bytes.length + uptoBulk d + 1
  | (_, d) => uptoBulk d + 1
 end
def uptoSmall : (H : Type) → List (DataW H) → Bool := fun _ ds => decide (uptoBulkAll ds ≤ 1048576)
def OpenSpec.upto (s : _root_.Go.ChangeSpec) : _root_.Go.OpenSpec := { _root_.Go.OpenSpec.ofChange s with cond := some uptoSmall }

/-- 'hibernaclelaw01.NumRows', WHERE WHAT IT READS IS OF BULK AT MOST 1048576: true; the input reads as it did. -/
def numRowsUptoRow : OpenClaim := { program := "ytplhmhclcfclhaa", sum := "3ad5572db3982272e76ba4bcc251b68712a0867b54da17cb05d82e5d91512452", func := "hibernacle/hibernaclelaw01.NumRows", spec := "numRows", inPlace := ["internal/abi.NoEscape", "internal/bytealg.MakeNoZero"], recurses := true, apart := false, narrowed := true }
def NumRowsUptoSaid : Prop := numRowsUptoRow.holds Try.pinned (OpenSpec.upto numRowsSpec)

/-- 'hibernaclelaw01.NumTexts', WHERE WHAT IT READS IS OF BULK AT MOST 1048576: true; the input reads as it did. -/
def numTextsUptoRow : OpenClaim := { program := "ytplhmhclcfclhaa", sum := "3ad5572db3982272e76ba4bcc251b68712a0867b54da17cb05d82e5d91512452", func := "hibernacle/hibernaclelaw01.NumTexts", spec := "numTexts", inPlace := ["internal/abi.NoEscape", "internal/bytealg.MakeNoZero"], apart := false, narrowed := true }
def NumTextsUptoSaid : Prop := numTextsUptoRow.holds Try.pinned (OpenSpec.upto numTextsSpec)

/-- 'hibernaclelaw01.NumApart', WHERE WHAT IT READS IS OF BULK AT MOST 1048576: true; the input reads as it did. -/
def numApartUptoRow : OpenClaim := { program := "ytplhmhclcfclhaa", sum := "3ad5572db3982272e76ba4bcc251b68712a0867b54da17cb05d82e5d91512452", func := "hibernacle/hibernaclelaw01.NumApart", spec := "numApart", inPlace := ["internal/abi.NoEscape", "internal/bytealg.MakeNoZero"], apart := false, narrowed := true }
def NumApartUptoSaid : Prop := numApartUptoRow.holds Try.pinned (OpenSpec.upto numApartSpec)

/-- 'hibernaclelaw01.NumNests', WHERE WHAT IT READS IS OF BULK AT MOST 1048576: true; the input reads as it did. -/
def numNestsUptoRow : OpenClaim := { program := "ytplhmhclcfclhaa", sum := "3ad5572db3982272e76ba4bcc251b68712a0867b54da17cb05d82e5d91512452", func := "hibernacle/hibernaclelaw01.NumNests", spec := "numNests", inPlace := ["internal/abi.NoEscape", "internal/bytealg.MakeNoZero"], apart := false, narrowed := true }
def NumNestsUptoSaid : Prop := numNestsUptoRow.holds Try.pinned (OpenSpec.upto numNestsSpec)

/-- 'hibernaclelaw01.NumBytes', WHERE WHAT IT READS IS OF BULK AT MOST 1048576: true; the input reads as it did. -/
def numBytesUptoRow : OpenClaim := { program := "ytplhmhclcfclhaa", sum := "3ad5572db3982272e76ba4bcc251b68712a0867b54da17cb05d82e5d91512452", func := "hibernacle/hibernaclelaw01.NumBytes", spec := "numBytes", inPlace := ["internal/abi.NoEscape", "internal/bytealg.MakeNoZero"], apart := false, narrowed := true }
def NumBytesUptoSaid : Prop := numBytesUptoRow.holds Try.pinned (OpenSpec.upto numBytesSpec)

/-- 'hibernaclelaw12.ExeLays', WHERE WHAT IT READS IS OF BULK AT MOST 1048576: true; the input reads as it did. -/
def exeLaysUptoRow : OpenClaim := { program := "ytplhmhclcfclhaa", sum := "3ad5572db3982272e76ba4bcc251b68712a0867b54da17cb05d82e5d91512452", func := "hibernacle/hibernaclelaw12.ExeLays", spec := "exeLays", inPlace := ["internal/abi.NoEscape", "internal/bytealg.MakeNoZero"], unfollowed := true, recurses := true, apart := false, narrowed := true }
def ExeLaysUptoSaid : Prop := exeLaysUptoRow.holds Try.pinned (OpenSpec.upto exeLaysSpec)

/-- 'hibernaclelaw12.ExePages', WHERE WHAT IT READS IS OF BULK AT MOST 1048576: true; the input reads as it did. -/
def exePagesUptoRow : OpenClaim := { program := "ytplhmhclcfclhaa", sum := "3ad5572db3982272e76ba4bcc251b68712a0867b54da17cb05d82e5d91512452", func := "hibernacle/hibernaclelaw12.ExePages", spec := "exePages", inPlace := ["internal/abi.NoEscape", "internal/bytealg.MakeNoZero"], unfollowed := true, recurses := true, apart := false, narrowed := true }
def ExePagesUptoSaid : Prop := exePagesUptoRow.holds Try.pinned (OpenSpec.upto exePagesSpec)

/-- 'hibernaclelaw12.ExeBytes', WHERE WHAT IT READS IS OF BULK AT MOST 1048576: true; the input reads as it did. -/
def exeBytesUptoRow : OpenClaim := { program := "ytplhmhclcfclhaa", sum := "3ad5572db3982272e76ba4bcc251b68712a0867b54da17cb05d82e5d91512452", func := "hibernacle/hibernaclelaw12.ExeBytes", spec := "exeBytes", inPlace := ["internal/abi.NoEscape", "internal/bytealg.MakeNoZero"], unfollowed := true, recurses := true, apart := false, narrowed := true }
def ExeBytesUptoSaid : Prop := exeBytesUptoRow.holds Try.pinned (OpenSpec.upto exeBytesSpec)

/-- 'hibernaclelaw12.ExeReads', WHERE WHAT IT READS IS OF BULK AT MOST 1048576: true; the input reads as it did. -/
def exeReadsUptoRow : OpenClaim := { program := "ytplhmhclcfclhaa", sum := "3ad5572db3982272e76ba4bcc251b68712a0867b54da17cb05d82e5d91512452", func := "hibernacle/hibernaclelaw12.ExeReads", spec := "exeReads", inPlace := ["internal/abi.NoEscape", "internal/bytealg.MakeNoZero"], unfollowed := true, recurses := true, apart := false, narrowed := true }
def ExeReadsUptoSaid : Prop := exeReadsUptoRow.holds Try.pinned (OpenSpec.upto exeReadsSpec)

/-- 'hibernaclelaw12.ExeCuts', WHERE WHAT IT READS IS OF BULK AT MOST 1048576: true; the input reads as it did. -/
def exeCutsUptoRow : OpenClaim := { program := "ytplhmhclcfclhaa", sum := "3ad5572db3982272e76ba4bcc251b68712a0867b54da17cb05d82e5d91512452", func := "hibernacle/hibernaclelaw12.ExeCuts", spec := "exeCuts", inPlace := ["internal/abi.NoEscape", "internal/bytealg.MakeNoZero"], unfollowed := true, recurses := true, apart := false, narrowed := true }
def ExeCutsUptoSaid : Prop := exeCutsUptoRow.holds Try.pinned (OpenSpec.upto exeCutsSpec)

/-- 'hibernaclelaw12.ExeWords', WHERE WHAT IT READS IS OF BULK AT MOST 1048576: true; the input reads as it did. -/
def exeWordsUptoRow : OpenClaim := { program := "ytplhmhclcfclhaa", sum := "3ad5572db3982272e76ba4bcc251b68712a0867b54da17cb05d82e5d91512452", func := "hibernacle/hibernaclelaw12.ExeWords", spec := "exeWords", inPlace := ["internal/abi.NoEscape", "internal/bytealg.MakeNoZero"], unfollowed := true, recurses := true, apart := false, narrowed := true }
def ExeWordsUptoSaid : Prop := exeWordsUptoRow.holds Try.pinned (OpenSpec.upto exeWordsSpec)

end Rows
end Go.Proofs.Ytplhmhclcfclhaa
