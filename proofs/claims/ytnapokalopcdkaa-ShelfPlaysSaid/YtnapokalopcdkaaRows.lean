/-
  No cell of these rows narrows 'for every input' (looked for: loops, veiled, ifaces, maps, wideKeys, modest, calm, conditions, laid).
  DERIVED. THE GIVEN ROWS OF THIS SEAT. 5 by the template 'for every input the law returns true; each argument reads behind the call as it read before'; 0 by the template 'total and deterministic' (their statements: YtnapokalopcdkaaTotals.lean).
  GIVEN WITH THE SEED: the statements are not yours to turn. If you find one false, say at which input.
  Laid BY PROGRAM, IN A SANDBOX (cutbox-rows.mjs): the forced cells as the released guide's own fill.sh prints them over the translation bd69ce2f7122f31d… (all of the seat's roots in one cut). By AI agents, Wed Nov 11 2026. No macro, syntax, notation, axiom, sorry.
-/
import Derived.Test.YtnapokalopcdkaaChecked
import GoSem.Claim
import GoSem.ClaimJoined
import GoSem.ClaimMapViews
import Derived.JoinedTies
import Derived.KernelRfl
namespace Go.Proofs.Ytnapokalopcdkaa
/- THE CELL 'sum', in the pinned program and in every row, IS THE sha256 OF THE DUMP (.gsa) THAT YtnapokalopcdkaaProg.lean LOADS. Nothing in Lean hashes anything: it is a label: what it is worth is what the hold of that sum in a sandbox is worth. -/
noncomputable def Try.pinned : Pinned := { name := "ytnapokalopcdkaa", sum := "bd69ce2f7122f31d0b89f819f89e8e2a422d88ac9404f24f8581c11e78af33a3", checked := Try.checked }
namespace Rows
def none {H : Type} : Left H := { results := [], args := [] }

/-- 'hibernaclelaw36.ShelfLies': WHATEVER THE INPUT: true; the input reads as it did. -/
def shelfLiesSpec : ChangeSpec := { name := "shelfLies", fn := fun _ => fun
  | [d1, d2, d3] => { results := [.lit (.bool true)], args := [d1, d2, d3] }
  | _ => none }
def shelfLiesRow : OpenClaim := { program := "ytnapokalopcdkaa", sum := "bd69ce2f7122f31d0b89f819f89e8e2a422d88ac9404f24f8581c11e78af33a3", func := "hibernacle/hibernaclelaw36.ShelfLies", spec := "shelfLies", inPlace := ["internal/bytealg.abigen_runtime_cmpstring", "slices.overlaps[hibernacle/api.Obj]"], unfollowed := true, recurses := true, apart := false }
def ShelfLiesSaid : Prop := shelfLiesRow.holds Try.pinned (OpenSpec.ofChange shelfLiesSpec)

/-- ITS FALSE NEIGHBOUR: 'it returns false'. Refute it at one input. -/
def shelfLiesWrong : ChangeSpec := { name := "shelfLies", fn := fun _ => fun
  | [d1, d2, d3] => { results := [.lit (.bool false)], args := [d1, d2, d3] }
  | _ => none }
def ShelfLiesWrongFalsely : Prop := shelfLiesRow.holds Try.pinned (OpenSpec.ofChange shelfLiesWrong)

/-- 'hibernaclelaw36.ShelfHonest': WHATEVER THE INPUT: true; the input reads as it did. -/
def shelfHonestSpec : ChangeSpec := { name := "shelfHonest", fn := fun _ => fun
  | [d1, d2, d3, d4] => { results := [.lit (.bool true)], args := [d1, d2, d3, d4] }
  | _ => none }
def shelfHonestRow : OpenClaim := { program := "ytnapokalopcdkaa", sum := "bd69ce2f7122f31d0b89f819f89e8e2a422d88ac9404f24f8581c11e78af33a3", func := "hibernacle/hibernaclelaw36.ShelfHonest", spec := "shelfHonest", inPlace := ["internal/bytealg.abigen_runtime_cmpstring", "slices.overlaps[hibernacle/api.Obj]"], unfollowed := true, recurses := true, apart := false }
def ShelfHonestSaid : Prop := shelfHonestRow.holds Try.pinned (OpenSpec.ofChange shelfHonestSpec)

/-- ITS FALSE NEIGHBOUR: 'it returns false'. Refute it at one input. -/
def shelfHonestWrong : ChangeSpec := { name := "shelfHonest", fn := fun _ => fun
  | [d1, d2, d3, d4] => { results := [.lit (.bool false)], args := [d1, d2, d3, d4] }
  | _ => none }
def ShelfHonestWrongFalsely : Prop := shelfHonestRow.holds Try.pinned (OpenSpec.ofChange shelfHonestWrong)

/-- 'hibernaclelaw36.ShelfChecks': WHATEVER THE INPUT: true; the input reads as it did. -/
def shelfChecksSpec : ChangeSpec := { name := "shelfChecks", fn := fun _ => fun
  | [d1, d2, d3] => { results := [.lit (.bool true)], args := [d1, d2, d3] }
  | _ => none }
def shelfChecksRow : OpenClaim := { program := "ytnapokalopcdkaa", sum := "bd69ce2f7122f31d0b89f819f89e8e2a422d88ac9404f24f8581c11e78af33a3", func := "hibernacle/hibernaclelaw36.ShelfChecks", spec := "shelfChecks", inPlace := ["internal/bytealg.abigen_runtime_cmpstring", "slices.overlaps[hibernacle/api.Obj]"], unfollowed := true, recurses := true, apart := false }
def ShelfChecksSaid : Prop := shelfChecksRow.holds Try.pinned (OpenSpec.ofChange shelfChecksSpec)

/-- ITS FALSE NEIGHBOUR: 'it returns false'. Refute it at one input. -/
def shelfChecksWrong : ChangeSpec := { name := "shelfChecks", fn := fun _ => fun
  | [d1, d2, d3] => { results := [.lit (.bool false)], args := [d1, d2, d3] }
  | _ => none }
def ShelfChecksWrongFalsely : Prop := shelfChecksRow.holds Try.pinned (OpenSpec.ofChange shelfChecksWrong)

/-- 'hibernaclelaw36.ShelfPlays': WHATEVER THE INPUT: true; the input reads as it did. -/
def shelfPlaysSpec : ChangeSpec := { name := "shelfPlays", fn := fun _ => fun
  | [d1, d2] => { results := [.lit (.bool true)], args := [d1, d2] }
  | _ => none }
def shelfPlaysRow : OpenClaim := { program := "ytnapokalopcdkaa", sum := "bd69ce2f7122f31d0b89f819f89e8e2a422d88ac9404f24f8581c11e78af33a3", func := "hibernacle/hibernaclelaw36.ShelfPlays", spec := "shelfPlays", inPlace := ["internal/bytealg.abigen_runtime_cmpstring", "slices.overlaps[hibernacle/api.Obj]"], unfollowed := true, recurses := true, apart := false }
def ShelfPlaysSaid : Prop := shelfPlaysRow.holds Try.pinned (OpenSpec.ofChange shelfPlaysSpec)

/-- ITS FALSE NEIGHBOUR: 'it returns false'. Refute it at one input. -/
def shelfPlaysWrong : ChangeSpec := { name := "shelfPlays", fn := fun _ => fun
  | [d1, d2] => { results := [.lit (.bool false)], args := [d1, d2] }
  | _ => none }
def ShelfPlaysWrongFalsely : Prop := shelfPlaysRow.holds Try.pinned (OpenSpec.ofChange shelfPlaysWrong)

/-- 'hibernaclelaw36.ShelfCalls': WHATEVER THE INPUT: true; the input reads as it did. -/
def shelfCallsSpec : ChangeSpec := { name := "shelfCalls", fn := fun _ => fun
  | [d1, d2, d3] => { results := [.lit (.bool true)], args := [d1, d2, d3] }
  | _ => none }
def shelfCallsRow : OpenClaim := { program := "ytnapokalopcdkaa", sum := "bd69ce2f7122f31d0b89f819f89e8e2a422d88ac9404f24f8581c11e78af33a3", func := "hibernacle/hibernaclelaw36.ShelfCalls", spec := "shelfCalls", inPlace := ["internal/bytealg.abigen_runtime_cmpstring", "slices.overlaps[hibernacle/api.Obj]"], unfollowed := true, recurses := true, apart := false }
def ShelfCallsSaid : Prop := shelfCallsRow.holds Try.pinned (OpenSpec.ofChange shelfCallsSpec)

/-- ITS FALSE NEIGHBOUR: 'it returns false'. Refute it at one input. -/
def shelfCallsWrong : ChangeSpec := { name := "shelfCalls", fn := fun _ => fun
  | [d1, d2, d3] => { results := [.lit (.bool false)], args := [d1, d2, d3] }
  | _ => none }
def ShelfCallsWrongFalsely : Prop := shelfCallsRow.holds Try.pinned (OpenSpec.ofChange shelfCallsWrong)

/- THE SECOND FORM. 'bulk': how many values and letters a reading holds, each counted each time it is reached (what is shared counts as often as it is met; a slice's spare places count too). A statement '..UptoSaid' is the law's where the arguments, and the package variables that the reading takes, are together of bulk at most 1048576: NARROWER than '..Said'. Prove '..Said' where nothing that the law and all that it calls make is longer than what came in: it says more and counts as full. Else prove '..UptoSaid'. A law counts once. -/
mutual
def uptoBulk {H : Type} : DataW H → Nat
  | .lit (.string bytes) => bytes.length + 1
  | .lit _ => 1
  | .nil => 1
  | .ptr d => uptoBulk d + 1
  | .slice elems spare => uptoBulkAll elems + uptoBulkAll spare + 1
  | .agg parts => uptoBulkAll parts + 1
  | .iface _ d => uptoBulk d + 1
  | .map entries => uptoBulkEntries entries + 1
  | .held _ => 1
def uptoBulkAll {H : Type} : List (DataW H) → Nat
  | [] => 0
  | d :: r => uptoBulk d + uptoBulkAll r
def uptoBulkEntries {H : Type} : List (Lit × DataW H) → Nat
  | [] => 0
  | x :: r => uptoBulkEntry x + uptoBulkEntries r
def uptoBulkEntry {H : Type} : Lit × DataW H → Nat
  | (.string bytes, d) => bytes.length + uptoBulk d + 1
  | (_, d) => uptoBulk d + 1
 end
def uptoSmall : (H : Type) → List (DataW H) → Bool := fun _ ds => decide (uptoBulkAll ds ≤ 1048576)
def OpenSpec.upto (s : _root_.Go.ChangeSpec) : _root_.Go.OpenSpec := { _root_.Go.OpenSpec.ofChange s with cond := some uptoSmall }

/-- 'hibernaclelaw36.ShelfLies', WHERE WHAT IT READS IS OF BULK AT MOST 1048576: true; the input reads as it did. -/
def shelfLiesUptoRow : OpenClaim := { program := "ytnapokalopcdkaa", sum := "bd69ce2f7122f31d0b89f819f89e8e2a422d88ac9404f24f8581c11e78af33a3", func := "hibernacle/hibernaclelaw36.ShelfLies", spec := "shelfLies", inPlace := ["internal/bytealg.abigen_runtime_cmpstring", "slices.overlaps[hibernacle/api.Obj]"], unfollowed := true, recurses := true, apart := false, narrowed := true }
def ShelfLiesUptoSaid : Prop := shelfLiesUptoRow.holds Try.pinned (OpenSpec.upto shelfLiesSpec)

/-- 'hibernaclelaw36.ShelfHonest', WHERE WHAT IT READS IS OF BULK AT MOST 1048576: true; the input reads as it did. -/
def shelfHonestUptoRow : OpenClaim := { program := "ytnapokalopcdkaa", sum := "bd69ce2f7122f31d0b89f819f89e8e2a422d88ac9404f24f8581c11e78af33a3", func := "hibernacle/hibernaclelaw36.ShelfHonest", spec := "shelfHonest", inPlace := ["internal/bytealg.abigen_runtime_cmpstring", "slices.overlaps[hibernacle/api.Obj]"], unfollowed := true, recurses := true, apart := false, narrowed := true }
def ShelfHonestUptoSaid : Prop := shelfHonestUptoRow.holds Try.pinned (OpenSpec.upto shelfHonestSpec)

/-- 'hibernaclelaw36.ShelfChecks', WHERE WHAT IT READS IS OF BULK AT MOST 1048576: true; the input reads as it did. -/
def shelfChecksUptoRow : OpenClaim := { program := "ytnapokalopcdkaa", sum := "bd69ce2f7122f31d0b89f819f89e8e2a422d88ac9404f24f8581c11e78af33a3", func := "hibernacle/hibernaclelaw36.ShelfChecks", spec := "shelfChecks", inPlace := ["internal/bytealg.abigen_runtime_cmpstring", "slices.overlaps[hibernacle/api.Obj]"], unfollowed := true, recurses := true, apart := false, narrowed := true }
def ShelfChecksUptoSaid : Prop := shelfChecksUptoRow.holds Try.pinned (OpenSpec.upto shelfChecksSpec)

/-- 'hibernaclelaw36.ShelfPlays', WHERE WHAT IT READS IS OF BULK AT MOST 1048576: true; the input reads as it did. -/
def shelfPlaysUptoRow : OpenClaim := { program := "ytnapokalopcdkaa", sum := "bd69ce2f7122f31d0b89f819f89e8e2a422d88ac9404f24f8581c11e78af33a3", func := "hibernacle/hibernaclelaw36.ShelfPlays", spec := "shelfPlays", inPlace := ["internal/bytealg.abigen_runtime_cmpstring", "slices.overlaps[hibernacle/api.Obj]"], unfollowed := true, recurses := true, apart := false, narrowed := true }
def ShelfPlaysUptoSaid : Prop := shelfPlaysUptoRow.holds Try.pinned (OpenSpec.upto shelfPlaysSpec)

/-- 'hibernaclelaw36.ShelfCalls', WHERE WHAT IT READS IS OF BULK AT MOST 1048576: true; the input reads as it did. -/
def shelfCallsUptoRow : OpenClaim := { program := "ytnapokalopcdkaa", sum := "bd69ce2f7122f31d0b89f819f89e8e2a422d88ac9404f24f8581c11e78af33a3", func := "hibernacle/hibernaclelaw36.ShelfCalls", spec := "shelfCalls", inPlace := ["internal/bytealg.abigen_runtime_cmpstring", "slices.overlaps[hibernacle/api.Obj]"], unfollowed := true, recurses := true, apart := false, narrowed := true }
def ShelfCallsUptoSaid : Prop := shelfCallsUptoRow.holds Try.pinned (OpenSpec.upto shelfCallsSpec)

end Rows
end Go.Proofs.Ytnapokalopcdkaa
