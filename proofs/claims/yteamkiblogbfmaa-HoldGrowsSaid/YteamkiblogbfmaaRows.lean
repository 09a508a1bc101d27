/-
  No cell of these rows narrows 'for every input' (looked for: loops, veiled, ifaces, maps, wideKeys, modest, calm, conditions, laid).
  DERIVED. THE GIVEN ROWS OF THIS SEAT. 7 by the template 'for every input the law returns true; each argument reads behind the call as it read before'; 0 by the template 'total and deterministic' (their statements: YteamkiblogbfmaaTotals.lean).
  GIVEN WITH THE SEED: the statements are not yours to turn. If you find one false, say at which input.
  Laid BY PROGRAM, IN A SANDBOX (cutbox-rows.mjs): the forced cells as the released guide's own fill.sh prints them over the translation 0431cdb7c07fcc13… (all of the seat's roots in one cut). By AI agents, Wed Nov 11 2026. No macro, syntax, notation, axiom, sorry.
-/
import Derived.Test.YteamkiblogbfmaaChecked
import GoSem.Claim
import GoSem.ClaimJoined
import GoSem.ClaimMapViews
import Derived.JoinedTies
import Derived.KernelRfl
namespace Go.Proofs.Yteamkiblogbfmaa
/- THE CELL 'sum', in the pinned program and in every row, IS THE sha256 OF THE DUMP (.gsa) THAT YteamkiblogbfmaaProg.lean LOADS. Nothing in Lean hashes anything: it is a label: what it is worth is what the hold of that sum in a sandbox is worth. -/
noncomputable def Try.pinned : Pinned := { name := "yteamkiblogbfmaa", sum := "0431cdb7c07fcc13647200bec8a718714aa4b6c82ba3c1b92477f75cc40ed12f", checked := Try.checked }
namespace Rows
def none {H : Type} : Left H := { results := [], args := [] }

/-- 'hibernaclelaw50.HoldSets': WHATEVER THE INPUT: true; the input reads as it did. -/
def holdSetsSpec : ChangeSpec := { name := "holdSets", fn := fun _ => fun
  | [d1, d2, d3, d4] => { results := [.lit (.bool true)], args := [d1, d2, d3, d4] }
  | _ => none }
def holdSetsRow : OpenClaim := { program := "yteamkiblogbfmaa", sum := "0431cdb7c07fcc13647200bec8a718714aa4b6c82ba3c1b92477f75cc40ed12f", func := "hibernacle/hibernaclelaw50.HoldSets", spec := "holdSets", unfollowed := true, recurses := true, apart := false }
def HoldSetsSaid : Prop := holdSetsRow.holds Try.pinned (OpenSpec.ofChange holdSetsSpec)

/-- ITS FALSE NEIGHBOUR: 'it returns false'. Refute it at one input. -/
def holdSetsWrong : ChangeSpec := { name := "holdSets", fn := fun _ => fun
  | [d1, d2, d3, d4] => { results := [.lit (.bool false)], args := [d1, d2, d3, d4] }
  | _ => none }
def HoldSetsWrongFalsely : Prop := holdSetsRow.holds Try.pinned (OpenSpec.ofChange holdSetsWrong)

/-- 'hibernaclelaw50.HoldLater': WHATEVER THE INPUT: true; the input reads as it did. -/
def holdLaterSpec : ChangeSpec := { name := "holdLater", fn := fun _ => fun
  | [d1, d2, d3, d4] => { results := [.lit (.bool true)], args := [d1, d2, d3, d4] }
  | _ => none }
def holdLaterRow : OpenClaim := { program := "yteamkiblogbfmaa", sum := "0431cdb7c07fcc13647200bec8a718714aa4b6c82ba3c1b92477f75cc40ed12f", func := "hibernacle/hibernaclelaw50.HoldLater", spec := "holdLater", unfollowed := true, recurses := true, apart := false }
def HoldLaterSaid : Prop := holdLaterRow.holds Try.pinned (OpenSpec.ofChange holdLaterSpec)

/-- ITS FALSE NEIGHBOUR: 'it returns false'. Refute it at one input. -/
def holdLaterWrong : ChangeSpec := { name := "holdLater", fn := fun _ => fun
  | [d1, d2, d3, d4] => { results := [.lit (.bool false)], args := [d1, d2, d3, d4] }
  | _ => none }
def HoldLaterWrongFalsely : Prop := holdLaterRow.holds Try.pinned (OpenSpec.ofChange holdLaterWrong)

/-- 'hibernaclelaw50.HoldLess': WHATEVER THE INPUT: true; the input reads as it did. -/
def holdLessSpec : ChangeSpec := { name := "holdLess", fn := fun _ => fun
  | [d1, d2, d3] => { results := [.lit (.bool true)], args := [d1, d2, d3] }
  | _ => none }
def holdLessRow : OpenClaim := { program := "yteamkiblogbfmaa", sum := "0431cdb7c07fcc13647200bec8a718714aa4b6c82ba3c1b92477f75cc40ed12f", func := "hibernacle/hibernaclelaw50.HoldLess", spec := "holdLess", unfollowed := true, recurses := true, apart := false }
def HoldLessSaid : Prop := holdLessRow.holds Try.pinned (OpenSpec.ofChange holdLessSpec)

/-- ITS FALSE NEIGHBOUR: 'it returns false'. Refute it at one input. -/
def holdLessWrong : ChangeSpec := { name := "holdLess", fn := fun _ => fun
  | [d1, d2, d3] => { results := [.lit (.bool false)], args := [d1, d2, d3] }
  | _ => none }
def HoldLessWrongFalsely : Prop := holdLessRow.holds Try.pinned (OpenSpec.ofChange holdLessWrong)

/-- 'hibernaclelaw50.HoldTrims': WHATEVER THE INPUT: true; the input reads as it did. -/
def holdTrimsSpec : ChangeSpec := { name := "holdTrims", fn := fun _ => fun
  | [d] => { results := [.lit (.bool true)], args := [d] }
  | _ => none }
def holdTrimsRow : OpenClaim := { program := "yteamkiblogbfmaa", sum := "0431cdb7c07fcc13647200bec8a718714aa4b6c82ba3c1b92477f75cc40ed12f", func := "hibernacle/hibernaclelaw50.HoldTrims", spec := "holdTrims", unfollowed := true, recurses := true, apart := false }
def HoldTrimsSaid : Prop := holdTrimsRow.holds Try.pinned (OpenSpec.ofChange holdTrimsSpec)

/-- ITS FALSE NEIGHBOUR: 'it returns false'. Refute it at one input. -/
def holdTrimsWrong : ChangeSpec := { name := "holdTrims", fn := fun _ => fun
  | [d] => { results := [.lit (.bool false)], args := [d] }
  | _ => none }
def HoldTrimsWrongFalsely : Prop := holdTrimsRow.holds Try.pinned (OpenSpec.ofChange holdTrimsWrong)

/-- 'hibernaclelaw50.HoldStays': WHATEVER THE INPUT: true; the input reads as it did. -/
def holdStaysSpec : ChangeSpec := { name := "holdStays", fn := fun _ => fun
  | [d] => { results := [.lit (.bool true)], args := [d] }
  | _ => none }
def holdStaysRow : OpenClaim := { program := "yteamkiblogbfmaa", sum := "0431cdb7c07fcc13647200bec8a718714aa4b6c82ba3c1b92477f75cc40ed12f", func := "hibernacle/hibernaclelaw50.HoldStays", spec := "holdStays", unfollowed := true, recurses := true, apart := false }
def HoldStaysSaid : Prop := holdStaysRow.holds Try.pinned (OpenSpec.ofChange holdStaysSpec)

/-- ITS FALSE NEIGHBOUR: 'it returns false'. Refute it at one input. -/
def holdStaysWrong : ChangeSpec := { name := "holdStays", fn := fun _ => fun
  | [d] => { results := [.lit (.bool false)], args := [d] }
  | _ => none }
def HoldStaysWrongFalsely : Prop := holdStaysRow.holds Try.pinned (OpenSpec.ofChange holdStaysWrong)

/-- 'hibernaclelaw50.HoldGrows': WHATEVER THE INPUT: true; the input reads as it did. -/
def holdGrowsSpec : ChangeSpec := { name := "holdGrows", fn := fun _ => fun
  | [d1, d2, d3] => { results := [.lit (.bool true)], args := [d1, d2, d3] }
  | _ => none }
def holdGrowsRow : OpenClaim := { program := "yteamkiblogbfmaa", sum := "0431cdb7c07fcc13647200bec8a718714aa4b6c82ba3c1b92477f75cc40ed12f", func := "hibernacle/hibernaclelaw50.HoldGrows", spec := "holdGrows", unfollowed := true, recurses := true, apart := false }
def HoldGrowsSaid : Prop := holdGrowsRow.holds Try.pinned (OpenSpec.ofChange holdGrowsSpec)

/-- ITS FALSE NEIGHBOUR: 'it returns false'. Refute it at one input. -/
def holdGrowsWrong : ChangeSpec := { name := "holdGrows", fn := fun _ => fun
  | [d1, d2, d3] => { results := [.lit (.bool false)], args := [d1, d2, d3] }
  | _ => none }
def HoldGrowsWrongFalsely : Prop := holdGrowsRow.holds Try.pinned (OpenSpec.ofChange holdGrowsWrong)

/-- 'hibernaclelaw50.HoldOnce': WHATEVER THE INPUT: true; the input reads as it did. -/
def holdOnceSpec : ChangeSpec := { name := "holdOnce", fn := fun _ => fun
  | [d] => { results := [.lit (.bool true)], args := [d] }
  | _ => none }
def holdOnceRow : OpenClaim := { program := "yteamkiblogbfmaa", sum := "0431cdb7c07fcc13647200bec8a718714aa4b6c82ba3c1b92477f75cc40ed12f", func := "hibernacle/hibernaclelaw50.HoldOnce", spec := "holdOnce", unfollowed := true, recurses := true, apart := false }
def HoldOnceSaid : Prop := holdOnceRow.holds Try.pinned (OpenSpec.ofChange holdOnceSpec)

/-- ITS FALSE NEIGHBOUR: 'it returns false'. Refute it at one input. -/
def holdOnceWrong : ChangeSpec := { name := "holdOnce", fn := fun _ => fun
  | [d] => { results := [.lit (.bool false)], args := [d] }
  | _ => none }
def HoldOnceWrongFalsely : Prop := holdOnceRow.holds Try.pinned (OpenSpec.ofChange holdOnceWrong)

/- THE SECOND FORM. 'bulk': how many values and letters a reading holds, each counted each time it is reached (what is shared counts as often as it is met; a slice's spare places count too). A statement '..UptoSaid' is the law's where the arguments, and the package variables that the reading takes, are together of bulk at most 1048576: NARROWER than '..Said'. Prove '..Said' where nothing that the law and all that it calls make is longer than what came in: it says more and counts as full. Else prove '..UptoSaid'. A law counts once. -/
mutual
def uptoBulk {H : Type} : DataW H → Nat
  | .lit (.string bytes) => bytes.length + 1
  | .lit _ => 1
  | .nil => 1
  | .ptr d => uptoBulk d + 1
  | .slice elems spare => uptoBulkAll elems + uptoBulkAll spare + 1
  | .agg parts => uptoBulkAll parts + 1
  | .iface _ d => uptoBulk d + 1
  | .map entries => uptoBulkEntries entries + 1
  | .held _ => 1
def uptoBulkAll {H : Type} : List (DataW H) → Nat
  | [] => 0
  | d :: r => uptoBulk d + uptoBulkAll r
def uptoBulkEntries {H : Type} : List (Lit × DataW H) → Nat
  | [] => 0
  | x :: r => uptoBulkEntry x + uptoBulkEntries r
def uptoBulkEntry {H : Type} : Lit × DataW H → Nat
  | (.string bytes, d) => bytes.length + uptoBulk d + 1
  | (_, d) => uptoBulk d + 1
 end
def uptoSmall : (H : Type) → List (DataW H) → Bool := fun _ ds => decide (uptoBulkAll ds ≤ 1048576)
def OpenSpec.upto (s : _root_.Go.ChangeSpec) : _root_.Go.OpenSpec := { _root_.Go.OpenSpec.ofChange s with cond := some uptoSmall }

/-- 'hibernaclelaw50.HoldSets', WHERE WHAT IT READS IS OF BULK AT MOST 1048576: true; the input reads as it did. -/
def holdSetsUptoRow : OpenClaim := { program := "yteamkiblogbfmaa", sum := "0431cdb7c07fcc13647200bec8a718714aa4b6c82ba3c1b92477f75cc40ed12f", func := "hibernacle/hibernaclelaw50.HoldSets", spec := "holdSets", unfollowed := true, recurses := true, apart := false, narrowed := true }
def HoldSetsUptoSaid : Prop := holdSetsUptoRow.holds Try.pinned (OpenSpec.upto holdSetsSpec)

/-- 'hibernaclelaw50.HoldLater', WHERE WHAT IT READS IS OF BULK AT MOST 1048576: true; the input reads as it did. -/
def holdLaterUptoRow : OpenClaim := { program := "yteamkiblogbfmaa", sum := "0431cdb7c07fcc13647200bec8a718714aa4b6c82ba3c1b92477f75cc40ed12f", func := "hibernacle/hibernaclelaw50.HoldLater", spec := "holdLater", unfollowed := true, recurses := true, apart := false, narrowed := true }
def HoldLaterUptoSaid : Prop := holdLaterUptoRow.holds Try.pinned (OpenSpec.upto holdLaterSpec)

/-- 'hibernaclelaw50.HoldLess', WHERE WHAT IT READS IS OF BULK AT MOST 1048576: true; the input reads as it did. -/
def holdLessUptoRow : OpenClaim := { program := "yteamkiblogbfmaa", sum := "0431cdb7c07fcc13647200bec8a718714aa4b6c82ba3c1b92477f75cc40ed12f", func := "hibernacle/hibernaclelaw50.HoldLess", spec := "holdLess", unfollowed := true, recurses := true, apart := false, narrowed := true }
def HoldLessUptoSaid : Prop := holdLessUptoRow.holds Try.pinned (OpenSpec.upto holdLessSpec)

/-- 'hibernaclelaw50.HoldTrims', WHERE WHAT IT READS IS OF BULK AT MOST 1048576: true; the input reads as it did. -/
def holdTrimsUptoRow : OpenClaim := { program := "yteamkiblogbfmaa", sum := "0431cdb7c07fcc13647200bec8a718714aa4b6c82ba3c1b92477f75cc40ed12f", func := "hibernacle/hibernaclelaw50.HoldTrims", spec := "holdTrims", unfollowed := true, recurses := true, apart := false, narrowed := true }
def HoldTrimsUptoSaid : Prop := holdTrimsUptoRow.holds Try.pinned (OpenSpec.upto holdTrimsSpec)

/-- 'hibernaclelaw50.HoldStays', WHERE WHAT IT READS IS OF BULK AT MOST 1048576: true; the input reads as it did. -/
def holdStaysUptoRow : OpenClaim := { program := "yteamkiblogbfmaa", sum := "0431cdb7c07fcc13647200bec8a718714aa4b6c82ba3c1b92477f75cc40ed12f", func := "hibernacle/hibernaclelaw50.HoldStays", spec := "holdStays", unfollowed := true, recurses := true, apart := false, narrowed := true }
def HoldStaysUptoSaid : Prop := holdStaysUptoRow.holds Try.pinned (OpenSpec.upto holdStaysSpec)

/-- 'hibernaclelaw50.HoldGrows', WHERE WHAT IT READS IS OF BULK AT MOST 1048576: true; the input reads as it did. -/
def holdGrowsUptoRow : OpenClaim := { program := "yteamkiblogbfmaa", sum := "0431cdb7c07fcc13647200bec8a718714aa4b6c82ba3c1b92477f75cc40ed12f", func := "hibernacle/hibernaclelaw50.HoldGrows", spec := "holdGrows", unfollowed := true, recurses := true, apart := false, narrowed := true }
def HoldGrowsUptoSaid : Prop := holdGrowsUptoRow.holds Try.pinned (OpenSpec.upto holdGrowsSpec)

/-- 'hibernaclelaw50.HoldOnce', WHERE WHAT IT READS IS OF BULK AT MOST 1048576: true; the input reads as it did. -/
def holdOnceUptoRow : OpenClaim := { program := "yteamkiblogbfmaa", sum := "0431cdb7c07fcc13647200bec8a718714aa4b6c82ba3c1b92477f75cc40ed12f", func := "hibernacle/hibernaclelaw50.HoldOnce", spec := "holdOnce", unfollowed := true, recurses := true, apart := false, narrowed := true }
def HoldOnceUptoSaid : Prop := holdOnceUptoRow.holds Try.pinned (OpenSpec.upto holdOnceSpec)

end Rows
end Go.Proofs.Yteamkiblogbfmaa
