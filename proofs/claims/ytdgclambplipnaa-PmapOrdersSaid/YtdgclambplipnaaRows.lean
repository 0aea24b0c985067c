/-
  No cell of these rows narrows 'for every input' (looked for: loops, veiled, ifaces, maps, wideKeys, modest, calm, conditions, laid).
  DERIVED. THE GIVEN ROWS OF THIS SEAT. 8 by the template 'for every input the law returns true; each argument reads behind the call as it read before'; 0 by the template 'total and deterministic' (their statements: YtdgclambplipnaaTotals.lean).
  GIVEN WITH THE SEED: the statements are not yours to turn. If you find one false, say at which input.
  Laid BY PROGRAM, IN A SANDBOX (cutbox-rows.mjs): the forced cells as the released guide's own fill.sh prints them over the translation e0b03c006f4f1db0… (all of the seat's roots in one cut). By AI agents, Wed Nov 11 2026. No macro, syntax, notation, axiom, sorry.
-/
import Derived.Test.YtdgclambplipnaaChecked
import GoSem.Claim
import GoSem.ClaimJoined
import GoSem.ClaimMapViews
import Derived.JoinedTies
import Derived.KernelRfl
namespace Go.Proofs.Ytdgclambplipnaa
/- THE CELL 'sum', in the pinned program and in every row, IS THE sha256 OF THE DUMP (.gsa) THAT YtdgclambplipnaaProg.lean LOADS. Nothing in Lean hashes anything: it is a label: what it is worth is what the hold of that sum in a sandbox is worth. -/
noncomputable def Try.pinned : Pinned := { name := "ytdgclambplipnaa", sum := "e0b03c006f4f1db0c6753d6e9e7e337123684e72f9309460e0a3a914a8f8f3bd", checked := Try.checked }
namespace Rows
def none {H : Type} : Left H := { results := [], args := [] }

/-- 'evergreenlaw08.PmapLarge': WHATEVER THE INPUT: true; the input reads as it did. -/
def pmapLargeSpec : ChangeSpec := { name := "pmapLarge", fn := fun _ => fun
  | [d1, d2, d3] => { results := [.lit (.bool true)], args := [d1, d2, d3] }
  | _ => none }
def pmapLargeRow : OpenClaim := { program := "ytdgclambplipnaa", sum := "e0b03c006f4f1db0c6753d6e9e7e337123684e72f9309460e0a3a914a8f8f3bd", func := "evergreen/evergreenlaw08.PmapLarge", spec := "pmapLarge", recurses := true, apart := false }
def PmapLargeSaid : Prop := pmapLargeRow.holds Try.pinned (OpenSpec.ofChange pmapLargeSpec)

/-- ITS FALSE NEIGHBOUR: 'it returns false'. Refute it at one input. -/
def pmapLargeWrong : ChangeSpec := { name := "pmapLarge", fn := fun _ => fun
  | [d1, d2, d3] => { results := [.lit (.bool false)], args := [d1, d2, d3] }
  | _ => none }
def PmapLargeWrongFalsely : Prop := pmapLargeRow.holds Try.pinned (OpenSpec.ofChange pmapLargeWrong)

/-- 'evergreenlaw08.PmapKeeps': WHATEVER THE INPUT: true; the input reads as it did. -/
def pmapKeepsSpec : ChangeSpec := { name := "pmapKeeps", fn := fun _ => fun
  | [d] => { results := [.lit (.bool true)], args := [d] }
  | _ => none }
def pmapKeepsRow : OpenClaim := { program := "ytdgclambplipnaa", sum := "e0b03c006f4f1db0c6753d6e9e7e337123684e72f9309460e0a3a914a8f8f3bd", func := "evergreen/evergreenlaw08.PmapKeeps", spec := "pmapKeeps", unfollowed := true, recurses := true, apart := false }
def PmapKeepsSaid : Prop := pmapKeepsRow.holds Try.pinned (OpenSpec.ofChange pmapKeepsSpec)

/-- ITS FALSE NEIGHBOUR: 'it returns false'. Refute it at one input. -/
def pmapKeepsWrong : ChangeSpec := { name := "pmapKeeps", fn := fun _ => fun
  | [d] => { results := [.lit (.bool false)], args := [d] }
  | _ => none }
def PmapKeepsWrongFalsely : Prop := pmapKeepsRow.holds Try.pinned (OpenSpec.ofChange pmapKeepsWrong)

/-- 'evergreenlaw08.PmapFroms': WHATEVER THE INPUT: true; the input reads as it did. -/
def pmapFromsSpec : ChangeSpec := { name := "pmapFroms", fn := fun _ => fun
  | [d1, d2, d3] => { results := [.lit (.bool true)], args := [d1, d2, d3] }
  | _ => none }
def pmapFromsRow : OpenClaim := { program := "ytdgclambplipnaa", sum := "e0b03c006f4f1db0c6753d6e9e7e337123684e72f9309460e0a3a914a8f8f3bd", func := "evergreen/evergreenlaw08.PmapFroms", spec := "pmapFroms", unfollowed := true, recurses := true, apart := false }
def PmapFromsSaid : Prop := pmapFromsRow.holds Try.pinned (OpenSpec.ofChange pmapFromsSpec)

/-- ITS FALSE NEIGHBOUR: 'it returns false'. Refute it at one input. -/
def pmapFromsWrong : ChangeSpec := { name := "pmapFroms", fn := fun _ => fun
  | [d1, d2, d3] => { results := [.lit (.bool false)], args := [d1, d2, d3] }
  | _ => none }
def PmapFromsWrongFalsely : Prop := pmapFromsRow.holds Try.pinned (OpenSpec.ofChange pmapFromsWrong)

/-- 'evergreenlaw08.PmapPlays': WHATEVER THE INPUT: true; the input reads as it did. -/
def pmapPlaysSpec : ChangeSpec := { name := "pmapPlays", fn := fun _ => fun
  | [d1, d2] => { results := [.lit (.bool true)], args := [d1, d2] }
  | _ => none }
def pmapPlaysRow : OpenClaim := { program := "ytdgclambplipnaa", sum := "e0b03c006f4f1db0c6753d6e9e7e337123684e72f9309460e0a3a914a8f8f3bd", func := "evergreen/evergreenlaw08.PmapPlays", spec := "pmapPlays", unfollowed := true, recurses := true, apart := false }
def PmapPlaysSaid : Prop := pmapPlaysRow.holds Try.pinned (OpenSpec.ofChange pmapPlaysSpec)

/-- ITS FALSE NEIGHBOUR: 'it returns false'. Refute it at one input. -/
def pmapPlaysWrong : ChangeSpec := { name := "pmapPlays", fn := fun _ => fun
  | [d1, d2] => { results := [.lit (.bool false)], args := [d1, d2] }
  | _ => none }
def PmapPlaysWrongFalsely : Prop := pmapPlaysRow.holds Try.pinned (OpenSpec.ofChange pmapPlaysWrong)

/-- 'evergreenlaw08.PmapStrings': WHATEVER THE INPUT: true; the input reads as it did. -/
def pmapStringsSpec : ChangeSpec := { name := "pmapStrings", fn := fun _ => fun
  | [d1, d2] => { results := [.lit (.bool true)], args := [d1, d2] }
  | _ => none }
def pmapStringsRow : OpenClaim := { program := "ytdgclambplipnaa", sum := "e0b03c006f4f1db0c6753d6e9e7e337123684e72f9309460e0a3a914a8f8f3bd", func := "evergreen/evergreenlaw08.PmapStrings", spec := "pmapStrings", unfollowed := true, recurses := true, apart := false }
def PmapStringsSaid : Prop := pmapStringsRow.holds Try.pinned (OpenSpec.ofChange pmapStringsSpec)

/-- ITS FALSE NEIGHBOUR: 'it returns false'. Refute it at one input. -/
def pmapStringsWrong : ChangeSpec := { name := "pmapStrings", fn := fun _ => fun
  | [d1, d2] => { results := [.lit (.bool false)], args := [d1, d2] }
  | _ => none }
def PmapStringsWrongFalsely : Prop := pmapStringsRow.holds Try.pinned (OpenSpec.ofChange pmapStringsWrong)

/-- 'evergreenlaw08.PmapWords': WHATEVER THE INPUT: true; the input reads as it did. -/
def pmapWordsSpec : ChangeSpec := { name := "pmapWords", fn := fun _ => fun
  | [d1, d2] => { results := [.lit (.bool true)], args := [d1, d2] }
  | _ => none }
def pmapWordsRow : OpenClaim := { program := "ytdgclambplipnaa", sum := "e0b03c006f4f1db0c6753d6e9e7e337123684e72f9309460e0a3a914a8f8f3bd", func := "evergreen/evergreenlaw08.PmapWords", spec := "pmapWords", unfollowed := true, recurses := true, apart := false }
def PmapWordsSaid : Prop := pmapWordsRow.holds Try.pinned (OpenSpec.ofChange pmapWordsSpec)

/-- ITS FALSE NEIGHBOUR: 'it returns false'. Refute it at one input. -/
def pmapWordsWrong : ChangeSpec := { name := "pmapWords", fn := fun _ => fun
  | [d1, d2] => { results := [.lit (.bool false)], args := [d1, d2] }
  | _ => none }
def PmapWordsWrongFalsely : Prop := pmapWordsRow.holds Try.pinned (OpenSpec.ofChange pmapWordsWrong)

/-- 'evergreenlaw08.PmapDiffers': WHATEVER THE INPUT: true; the input reads as it did. -/
def pmapDiffersSpec : ChangeSpec := { name := "pmapDiffers", fn := fun _ => fun
  | [d1, d2, d3] => { results := [.lit (.bool true)], args := [d1, d2, d3] }
  | _ => none }
def pmapDiffersRow : OpenClaim := { program := "ytdgclambplipnaa", sum := "e0b03c006f4f1db0c6753d6e9e7e337123684e72f9309460e0a3a914a8f8f3bd", func := "evergreen/evergreenlaw08.PmapDiffers", spec := "pmapDiffers", unfollowed := true, recurses := true, apart := false }
def PmapDiffersSaid : Prop := pmapDiffersRow.holds Try.pinned (OpenSpec.ofChange pmapDiffersSpec)

/-- ITS FALSE NEIGHBOUR: 'it returns false'. Refute it at one input. -/
def pmapDiffersWrong : ChangeSpec := { name := "pmapDiffers", fn := fun _ => fun
  | [d1, d2, d3] => { results := [.lit (.bool false)], args := [d1, d2, d3] }
  | _ => none }
def PmapDiffersWrongFalsely : Prop := pmapDiffersRow.holds Try.pinned (OpenSpec.ofChange pmapDiffersWrong)

/-- 'evergreenlaw08.PmapOrders': WHATEVER THE INPUT: true; the input reads as it did. -/
def pmapOrdersSpec : ChangeSpec := { name := "pmapOrders", fn := fun _ => fun
  | [d1, d2, d3] => { results := [.lit (.bool true)], args := [d1, d2, d3] }
  | _ => none }
def pmapOrdersRow : OpenClaim := { program := "ytdgclambplipnaa", sum := "e0b03c006f4f1db0c6753d6e9e7e337123684e72f9309460e0a3a914a8f8f3bd", func := "evergreen/evergreenlaw08.PmapOrders", spec := "pmapOrders", unfollowed := true, recurses := true, apart := false }
def PmapOrdersSaid : Prop := pmapOrdersRow.holds Try.pinned (OpenSpec.ofChange pmapOrdersSpec)

/-- ITS FALSE NEIGHBOUR: 'it returns false'. Refute it at one input. -/
def pmapOrdersWrong : ChangeSpec := { name := "pmapOrders", fn := fun _ => fun
  | [d1, d2, d3] => { results := [.lit (.bool false)], args := [d1, d2, d3] }
  | _ => none }
def PmapOrdersWrongFalsely : Prop := pmapOrdersRow.holds Try.pinned (OpenSpec.ofChange pmapOrdersWrong)

/- THE SECOND FORM. 'bulk': how many values and letters a reading holds, each counted each time it is reached (what is shared counts as often as it is met; a slice's spare places count too). A statement '..UptoSaid' is the law's where the arguments, and the package variables that the reading takes, are together of bulk at most 1048576: NARROWER than '..Said'. Prove '..Said' where nothing that the law and all that it calls make is longer than what came in: it says more and counts as full. Else prove '..UptoSaid'. A law counts once. -/
mutual
def uptoBulk {H : Type} : DataW H → Nat
  | .lit (.string bytes) => bytes.length + 1
  | .lit _ => 1
  | .nil => 1
  | .ptr d => uptoBulk d + 1
  | .slice elems spare => uptoBulkAll elems + uptoBulkAll spare + 1
  | .agg parts => uptoBulkAll parts + 1
  | .iface _ d => uptoBulk d + 1
  | .map entries => uptoBulkEntries entries + 1
  | .held _ => 1
def uptoBulkAll {H : Type} : List (DataW H) → Nat
  | [] => 0
  | d :: r => uptoBulk d + uptoBulkAll r
def uptoBulkEntries {H : Type} : List (Lit × DataW H) → Nat
  | [] => 0
  | x :: r => uptoBulkEntry x + uptoBulkEntries r
def uptoBulkEntry {H : Type} : Lit × DataW H → Nat
  | (.string bytes, d) => bytes.length + uptoBulk d + 1
  | (_, d) => uptoBulk d + 1
 end
def uptoSmall : (H : Type) → List (DataW H) → Bool := fun _ ds => decide (uptoBulkAll ds ≤ 1048576)
def OpenSpec.upto (s : _root_.Go.ChangeSpec) : _root_.Go.OpenSpec := { _root_.Go.OpenSpec.ofChange s with cond := some uptoSmall }

/-- 'evergreenlaw08.PmapLarge', WHERE WHAT IT READS IS OF BULK AT MOST 1048576: true; the input reads as it did. -/
def pmapLargeUptoRow : OpenClaim := { program := "ytdgclambplipnaa", sum := "e0b03c006f4f1db0c6753d6e9e7e337123684e72f9309460e0a3a914a8f8f3bd", func := "evergreen/evergreenlaw08.PmapLarge", spec := "pmapLarge", recurses := true, apart := false, narrowed := true }
def PmapLargeUptoSaid : Prop := pmapLargeUptoRow.holds Try.pinned (OpenSpec.upto pmapLargeSpec)

/-- 'evergreenlaw08.PmapKeeps', WHERE WHAT IT READS IS OF BULK AT MOST 1048576: true; the input reads as it did. -/
def pmapKeepsUptoRow : OpenClaim := { program := "ytdgclambplipnaa", sum := "e0b03c006f4f1db0c6753d6e9e7e337123684e72f9309460e0a3a914a8f8f3bd", func := "evergreen/evergreenlaw08.PmapKeeps", spec := "pmapKeeps", unfollowed := true, recurses := true, apart := false, narrowed := true }
def PmapKeepsUptoSaid : Prop := pmapKeepsUptoRow.holds Try.pinned (OpenSpec.upto pmapKeepsSpec)

/-- 'evergreenlaw08.PmapFroms', WHERE WHAT IT READS IS OF BULK AT MOST 1048576: true; the input reads as it did. -/
def pmapFromsUptoRow : OpenClaim := { program := "ytdgclambplipnaa", sum := "e0b03c006f4f1db0c6753d6e9e7e337123684e72f9309460e0a3a914a8f8f3bd", func := "evergreen/evergreenlaw08.PmapFroms", spec := "pmapFroms", unfollowed := true, recurses := true, apart := false, narrowed := true }
def PmapFromsUptoSaid : Prop := pmapFromsUptoRow.holds Try.pinned (OpenSpec.upto pmapFromsSpec)

/-- 'evergreenlaw08.PmapPlays', WHERE WHAT IT READS IS OF BULK AT MOST 1048576: true; the input reads as it did. -/
def pmapPlaysUptoRow : OpenClaim := { program := "ytdgclambplipnaa", sum := "e0b03c006f4f1db0c6753d6e9e7e337123684e72f9309460e0a3a914a8f8f3bd", func := "evergreen/evergreenlaw08.PmapPlays", spec := "pmapPlays", unfollowed := true, recurses := true, apart := false, narrowed := true }
def PmapPlaysUptoSaid : Prop := pmapPlaysUptoRow.holds Try.pinned (OpenSpec.upto pmapPlaysSpec)

/-- 'evergreenlaw08.PmapStrings', WHERE WHAT IT READS IS OF BULK AT MOST 1048576: true; the input reads as it did. -/
def pmapStringsUptoRow : OpenClaim := { program := "ytdgclambplipnaa", sum := "e0b03c006f4f1db0c6753d6e9e7e337123684e72f9309460e0a3a914a8f8f3bd", func := "evergreen/evergreenlaw08.PmapStrings", spec := "pmapStrings", unfollowed := true, recurses := true, apart := false, narrowed := true }
def PmapStringsUptoSaid : Prop := pmapStringsUptoRow.holds Try.pinned (OpenSpec.upto pmapStringsSpec)

/-- 'evergreenlaw08.PmapWords', WHERE WHAT IT READS IS OF BULK AT MOST 1048576: true; the input reads as it did. -/
def pmapWordsUptoRow : OpenClaim := { program := "ytdgclambplipnaa", sum := "e0b03c006f4f1db0c6753d6e9e7e337123684e72f9309460e0a3a914a8f8f3bd", func := "evergreen/evergreenlaw08.PmapWords", spec := "pmapWords", unfollowed := true, recurses := true, apart := false, narrowed := true }
def PmapWordsUptoSaid : Prop := pmapWordsUptoRow.holds Try.pinned (OpenSpec.upto pmapWordsSpec)

/-- 'evergreenlaw08.PmapDiffers', WHERE WHAT IT READS IS OF BULK AT MOST 1048576: true; the input reads as it did. -/
def pmapDiffersUptoRow : OpenClaim := { program := "ytdgclambplipnaa", sum := "e0b03c006f4f1db0c6753d6e9e7e337123684e72f9309460e0a3a914a8f8f3bd", func := "evergreen/evergreenlaw08.PmapDiffers", spec := "pmapDiffers", unfollowed := true, recurses := true, apart := false, narrowed := true }
def PmapDiffersUptoSaid : Prop := pmapDiffersUptoRow.holds Try.pinned (OpenSpec.upto pmapDiffersSpec)

/-- 'evergreenlaw08.PmapOrders', WHERE WHAT IT READS IS OF BULK AT MOST 1048576: true; the input reads as it did. -/
def pmapOrdersUptoRow : OpenClaim := { program := "ytdgclambplipnaa", sum := "e0b03c006f4f1db0c6753d6e9e7e337123684e72f9309460e0a3a914a8f8f3bd", func := "evergreen/evergreenlaw08.PmapOrders", spec := "pmapOrders", unfollowed := true, recurses := true, apart := false, narrowed := true }
def PmapOrdersUptoSaid : Prop := pmapOrdersUptoRow.holds Try.pinned (OpenSpec.upto pmapOrdersSpec)

end Rows
end Go.Proofs.Ytdgclambplipnaa
