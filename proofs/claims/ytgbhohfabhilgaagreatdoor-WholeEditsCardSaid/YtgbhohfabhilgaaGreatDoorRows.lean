/-
  NARROWER THAN 'FOR EVERY INPUT', by the rows' own cells (each row's printed sentence says how): WholeSeams: laid · WholeReached: laid · WholePatches: laid · WholeMerges: laid · WholeEdits: laid · WholeFar: laid.
  DERIVED. THE GIVEN ROWS OF THIS SEAT. 6 by the template 'for every input the law returns true; each argument reads behind the call as it read before'; 0 by the template 'total and deterministic' (their statements: YtgbhohfabhilgaaGreatDoorTotals.lean).
  GIVEN WITH THE SEED: the statements are not yours to turn. If you find one false, say at which input.
  Laid BY PROGRAM, IN A SANDBOX (cutbox-rows.mjs): the forced cells as the released guide's own fill.sh prints them over the translation 833f947d532f29ac… (all of the seat's roots in one cut). By AI agents, Wed Nov 11 2026. No macro, syntax, notation, axiom, sorry.
-/
import Derived.Test.YtgbhohfabhilgaaGreatDoorChecked
import GoSem.Claim
import GoSem.ClaimJoined
import GoSem.ClaimMapViews
import Derived.JoinedTies
import Derived.KernelRfl
namespace Go.Proofs.YtgbhohfabhilgaaGreatDoor
/- THE CELL 'sum', in the pinned program and in every row, IS THE sha256 OF THE DUMP (.gsa) THAT YtgbhohfabhilgaaGreatDoorProg.lean LOADS. Nothing in Lean hashes anything: it is a label: what it is worth is what the hold of that sum in a sandbox is worth. -/
noncomputable def Tryz.pinned : Pinned := { name := "ytgbhohfabhilgaagreatdoor", sum := "833f947d532f29ac5ad523acae9d6a9b535003fefb8007efef9f1f89b7d914c1", checked := Tryz.checked }
namespace Rows
def none {H : Type} : Left H := { results := [], args := [] }

/- WHAT THE LISTED PACKAGE-LEVEL VARIABLES READ AS WHEN THE CALL BEGINS. Each datum BY PROGRAM (the guide's laid-datum.mjs) off the statement by which the dump's own 'gosem.cut.vars' lays the variable. In a bare row this is a premise. The card (YtgbhohfabhilgaaGreatDoorCards.lean) ties it to the program's text. -/
def laid_math_bits_deBruijn64tab {H : Type} : DataW H := .agg [.lit (.int .u8 0), .lit (.int .u8 1), .lit (.int .u8 56), .lit (.int .u8 2), .lit (.int .u8 57), .lit (.int .u8 49), .lit (.int .u8 28), .lit (.int .u8 3), .lit (.int .u8 61), .lit (.int .u8 58), .lit (.int .u8 42), .lit (.int .u8 50), .lit (.int .u8 38), .lit (.int .u8 29), .lit (.int .u8 17), .lit (.int .u8 4), .lit (.int .u8 62), .lit (.int .u8 47), .lit (.int .u8 59), .lit (.int .u8 36), .lit (.int .u8 45), .lit (.int .u8 43), .lit (.int .u8 51), .lit (.int .u8 22), .lit (.int .u8 53), .lit (.int .u8 39), .lit (.int .u8 33), .lit (.int .u8 30), .lit (.int .u8 24), .lit (.int .u8 18), .lit (.int .u8 12), .lit (.int .u8 5), .lit (.int .u8 63), .lit (.int .u8 55), .lit (.int .u8 48), .lit (.int .u8 27), .lit (.int .u8 60), .lit (.int .u8 41), .lit (.int .u8 37), .lit (.int .u8 16), .lit (.int .u8 46), .lit (.int .u8 35), .lit (.int .u8 44), .lit (.int .u8 21), .lit (.int .u8 52), .lit (.int .u8 32), .lit (.int .u8 23), .lit (.int .u8 11), .lit (.int .u8 54), .lit (.int .u8 26), .lit (.int .u8 40), .lit (.int .u8 15), .lit (.int .u8 34), .lit (.int .u8 20), .lit (.int .u8 31), .lit (.int .u8 10), .lit (.int .u8 25), .lit (.int .u8 14), .lit (.int .u8 19), .lit (.int .u8 9), .lit (.int .u8 13), .lit (.int .u8 8), .lit (.int .u8 7), .lit (.int .u8 6)]

/-- 'evergreentop.WholeSeams': WHATEVER THE INPUT: true; the input reads as it did. -/
def wholeSeamsSpec : ChangeSpec := { name := "wholeSeams", fn := fun _ => fun
  | [d1, d2, d3] => { results := [.lit (.bool true)], args := [d1, d2, d3] }
  | _ => none }
def wholeSeamsRow : OpenClaim := { program := "ytgbhohfabhilgaagreatdoor", sum := "833f947d532f29ac5ad523acae9d6a9b535003fefb8007efef9f1f89b7d914c1", func := "evergreen/evergreentop.WholeSeams", spec := "wholeSeams", inPlace := ["slices.overlaps[evergreen/seam.item]"], named := ["math/bits.deBruijn64tab"], plainKeys := false, apart := false, laid := [("math/bits.deBruijn64tab", laid_math_bits_deBruijn64tab)] }
def WholeSeamsSaid : Prop := wholeSeamsRow.holds Tryz.pinned (OpenSpec.ofChange wholeSeamsSpec)

/-- ITS FALSE NEIGHBOUR: 'it returns false'. Refute it at one input. -/
def wholeSeamsWrong : ChangeSpec := { name := "wholeSeams", fn := fun _ => fun
  | [d1, d2, d3] => { results := [.lit (.bool false)], args := [d1, d2, d3] }
  | _ => none }
def WholeSeamsWrongFalsely : Prop := wholeSeamsRow.holds Tryz.pinned (OpenSpec.ofChange wholeSeamsWrong)

/-- 'evergreentop.WholeReached': WHATEVER THE INPUT: true; the input reads as it did. -/
def wholeReachedSpec : ChangeSpec := { name := "wholeReached", fn := fun _ => fun
  | [d1, d2] => { results := [.lit (.bool true)], args := [d1, d2] }
  | _ => none }
def wholeReachedRow : OpenClaim := { program := "ytgbhohfabhilgaagreatdoor", sum := "833f947d532f29ac5ad523acae9d6a9b535003fefb8007efef9f1f89b7d914c1", func := "evergreen/evergreentop.WholeReached", spec := "wholeReached", inPlace := ["slices.overlaps[evergreen/seam.item]"], unfollowed := true, recurses := true, named := ["math/bits.deBruijn64tab"], plainKeys := false, apart := false, laid := [("math/bits.deBruijn64tab", laid_math_bits_deBruijn64tab)] }
def WholeReachedSaid : Prop := wholeReachedRow.holds Tryz.pinned (OpenSpec.ofChange wholeReachedSpec)

/-- ITS FALSE NEIGHBOUR: 'it returns false'. Refute it at one input. -/
def wholeReachedWrong : ChangeSpec := { name := "wholeReached", fn := fun _ => fun
  | [d1, d2] => { results := [.lit (.bool false)], args := [d1, d2] }
  | _ => none }
def WholeReachedWrongFalsely : Prop := wholeReachedRow.holds Tryz.pinned (OpenSpec.ofChange wholeReachedWrong)

/-- 'evergreentop.WholePatches': WHATEVER THE INPUT: true; the input reads as it did. -/
def wholePatchesSpec : ChangeSpec := { name := "wholePatches", fn := fun _ => fun
  | [d1, d2, d3] => { results := [.lit (.bool true)], args := [d1, d2, d3] }
  | _ => none }
def wholePatchesRow : OpenClaim := { program := "ytgbhohfabhilgaagreatdoor", sum := "833f947d532f29ac5ad523acae9d6a9b535003fefb8007efef9f1f89b7d914c1", func := "evergreen/evergreentop.WholePatches", spec := "wholePatches", inPlace := ["slices.overlaps[evergreen/seam.item]"], unfollowed := true, recurses := true, named := ["math/bits.deBruijn64tab"], plainKeys := false, apart := false, laid := [("math/bits.deBruijn64tab", laid_math_bits_deBruijn64tab)] }
def WholePatchesSaid : Prop := wholePatchesRow.holds Tryz.pinned (OpenSpec.ofChange wholePatchesSpec)

/-- ITS FALSE NEIGHBOUR: 'it returns false'. Refute it at one input. -/
def wholePatchesWrong : ChangeSpec := { name := "wholePatches", fn := fun _ => fun
  | [d1, d2, d3] => { results := [.lit (.bool false)], args := [d1, d2, d3] }
  | _ => none }
def WholePatchesWrongFalsely : Prop := wholePatchesRow.holds Tryz.pinned (OpenSpec.ofChange wholePatchesWrong)

/-- 'evergreentop.WholeMerges': WHATEVER THE INPUT: true; the input reads as it did. -/
def wholeMergesSpec : ChangeSpec := { name := "wholeMerges", fn := fun _ => fun
  | [d1, d2, d3] => { results := [.lit (.bool true)], args := [d1, d2, d3] }
  | _ => none }
def wholeMergesRow : OpenClaim := { program := "ytgbhohfabhilgaagreatdoor", sum := "833f947d532f29ac5ad523acae9d6a9b535003fefb8007efef9f1f89b7d914c1", func := "evergreen/evergreentop.WholeMerges", spec := "wholeMerges", inPlace := ["slices.overlaps[evergreen/seam.item]"], unfollowed := true, recurses := true, named := ["math/bits.deBruijn64tab"], plainKeys := false, apart := false, laid := [("math/bits.deBruijn64tab", laid_math_bits_deBruijn64tab)] }
def WholeMergesSaid : Prop := wholeMergesRow.holds Tryz.pinned (OpenSpec.ofChange wholeMergesSpec)

/-- ITS FALSE NEIGHBOUR: 'it returns false'. Refute it at one input. -/
def wholeMergesWrong : ChangeSpec := { name := "wholeMerges", fn := fun _ => fun
  | [d1, d2, d3] => { results := [.lit (.bool false)], args := [d1, d2, d3] }
  | _ => none }
def WholeMergesWrongFalsely : Prop := wholeMergesRow.holds Tryz.pinned (OpenSpec.ofChange wholeMergesWrong)

/-- 'evergreentop.WholeEdits': WHATEVER THE INPUT: true; the input reads as it did. -/
def wholeEditsSpec : ChangeSpec := { name := "wholeEdits", fn := fun _ => fun
  | [d1, d2, d3] => { results := [.lit (.bool true)], args := [d1, d2, d3] }
  | _ => none }
def wholeEditsRow : OpenClaim := { program := "ytgbhohfabhilgaagreatdoor", sum := "833f947d532f29ac5ad523acae9d6a9b535003fefb8007efef9f1f89b7d914c1", func := "evergreen/evergreentop.WholeEdits", spec := "wholeEdits", inPlace := ["slices.overlaps[evergreen/seam.item]"], unfollowed := true, recurses := true, named := ["math/bits.deBruijn64tab"], plainKeys := false, apart := false, laid := [("math/bits.deBruijn64tab", laid_math_bits_deBruijn64tab)] }
def WholeEditsSaid : Prop := wholeEditsRow.holds Tryz.pinned (OpenSpec.ofChange wholeEditsSpec)

/-- ITS FALSE NEIGHBOUR: 'it returns false'. Refute it at one input. -/
def wholeEditsWrong : ChangeSpec := { name := "wholeEdits", fn := fun _ => fun
  | [d1, d2, d3] => { results := [.lit (.bool false)], args := [d1, d2, d3] }
  | _ => none }
def WholeEditsWrongFalsely : Prop := wholeEditsRow.holds Tryz.pinned (OpenSpec.ofChange wholeEditsWrong)

/-- 'evergreentop.WholeFar': WHATEVER THE INPUT: true; the input reads as it did. -/
def wholeFarSpec : ChangeSpec := { name := "wholeFar", fn := fun _ => fun
  | [d1, d2, d3] => { results := [.lit (.bool true)], args := [d1, d2, d3] }
  | _ => none }
def wholeFarRow : OpenClaim := { program := "ytgbhohfabhilgaagreatdoor", sum := "833f947d532f29ac5ad523acae9d6a9b535003fefb8007efef9f1f89b7d914c1", func := "evergreen/evergreentop.WholeFar", spec := "wholeFar", inPlace := ["slices.overlaps[evergreen/seam.item]"], unfollowed := true, recurses := true, named := ["math/bits.deBruijn64tab"], plainKeys := false, apart := false, laid := [("math/bits.deBruijn64tab", laid_math_bits_deBruijn64tab)] }
def WholeFarSaid : Prop := wholeFarRow.holds Tryz.pinned (OpenSpec.ofChange wholeFarSpec)

/-- ITS FALSE NEIGHBOUR: 'it returns false'. Refute it at one input. -/
def wholeFarWrong : ChangeSpec := { name := "wholeFar", fn := fun _ => fun
  | [d1, d2, d3] => { results := [.lit (.bool false)], args := [d1, d2, d3] }
  | _ => none }
def WholeFarWrongFalsely : Prop := wholeFarRow.holds Tryz.pinned (OpenSpec.ofChange wholeFarWrong)

/- THE SECOND FORM. 'bulk': how many values and letters a reading holds, each counted each time it is reached (what is shared counts as often as it is met; a slice's spare places count too). A statement '..UptoSaid' is the law's where the arguments, and the package variables that the reading takes, are together of bulk at most 1048576: NARROWER than '..Said'. Prove '..Said' where nothing that the law and all that it calls make is longer than what came in: it says more and counts as full. Else prove '..UptoSaid'. A law counts once. -/
mutual
def uptoBulk {H : Type} : DataW H → Nat
  | .lit (.string bytes) => bytes.length + 1
  | .lit _ => 1
  | .nil => 1
  | .ptr d => uptoBulk d + 1
  | .slice elems spare => uptoBulkAll elems + uptoBulkAll spare + 1
  | .agg parts => uptoBulkAll parts + 1
  | .iface _ d => uptoBulk d + 1
  | .map entries => uptoBulkEntries entries + 1
  | .held _ => 1
def uptoBulkAll {H : Type} : List (DataW H) → Nat
  | [] => 0
  | d :: r => uptoBulk d + uptoBulkAll r
def uptoBulkEntries {H : Type} : List (Lit × DataW H) → Nat
  | [] => 0
  | x :: r => uptoBulkEntry x + uptoBulkEntries r
def uptoBulkEntry {H : Type} : Lit × DataW H → Nat
  | (.string bytes, d) => bytes.length + uptoBulk d + 1
  | (_, d) => uptoBulk d + 1
 end
def uptoSmall : (H : Type) → List (DataW H) → Bool := fun _ ds => decide (uptoBulkAll ds ≤ 1048576)
def OpenSpec.upto (s : _root_.Go.ChangeSpec) : _root_.Go.OpenSpec := { _root_.Go.OpenSpec.ofChange s with cond := some uptoSmall }

/-- 'evergreentop.WholeSeams', WHERE WHAT IT READS IS OF BULK AT MOST 1048576: true; the input reads as it did. -/
def wholeSeamsUptoRow : OpenClaim := { program := "ytgbhohfabhilgaagreatdoor", sum := "833f947d532f29ac5ad523acae9d6a9b535003fefb8007efef9f1f89b7d914c1", func := "evergreen/evergreentop.WholeSeams", spec := "wholeSeams", inPlace := ["slices.overlaps[evergreen/seam.item]"], named := ["math/bits.deBruijn64tab"], plainKeys := false, apart := false, laid := [("math/bits.deBruijn64tab", laid_math_bits_deBruijn64tab)], narrowed := true }
def WholeSeamsUptoSaid : Prop := wholeSeamsUptoRow.holds Tryz.pinned (OpenSpec.upto wholeSeamsSpec)

/-- 'evergreentop.WholeReached', WHERE WHAT IT READS IS OF BULK AT MOST 1048576: true; the input reads as it did. -/
def wholeReachedUptoRow : OpenClaim := { program := "ytgbhohfabhilgaagreatdoor", sum := "833f947d532f29ac5ad523acae9d6a9b535003fefb8007efef9f1f89b7d914c1", func := "evergreen/evergreentop.WholeReached", spec := "wholeReached", inPlace := ["slices.overlaps[evergreen/seam.item]"], unfollowed := true, recurses := true, named := ["math/bits.deBruijn64tab"], plainKeys := false, apart := false, laid := [("math/bits.deBruijn64tab", laid_math_bits_deBruijn64tab)], narrowed := true }
def WholeReachedUptoSaid : Prop := wholeReachedUptoRow.holds Tryz.pinned (OpenSpec.upto wholeReachedSpec)

/-- 'evergreentop.WholePatches', WHERE WHAT IT READS IS OF BULK AT MOST 1048576: true; the input reads as it did. -/
def wholePatchesUptoRow : OpenClaim := { program := "ytgbhohfabhilgaagreatdoor", sum := "833f947d532f29ac5ad523acae9d6a9b535003fefb8007efef9f1f89b7d914c1", func := "evergreen/evergreentop.WholePatches", spec := "wholePatches", inPlace := ["slices.overlaps[evergreen/seam.item]"], unfollowed := true, recurses := true, named := ["math/bits.deBruijn64tab"], plainKeys := false, apart := false, laid := [("math/bits.deBruijn64tab", laid_math_bits_deBruijn64tab)], narrowed := true }
def WholePatchesUptoSaid : Prop := wholePatchesUptoRow.holds Tryz.pinned (OpenSpec.upto wholePatchesSpec)

/-- 'evergreentop.WholeMerges', WHERE WHAT IT READS IS OF BULK AT MOST 1048576: true; the input reads as it did. -/
def wholeMergesUptoRow : OpenClaim := { program := "ytgbhohfabhilgaagreatdoor", sum := "833f947d532f29ac5ad523acae9d6a9b535003fefb8007efef9f1f89b7d914c1", func := "evergreen/evergreentop.WholeMerges", spec := "wholeMerges", inPlace := ["slices.overlaps[evergreen/seam.item]"], unfollowed := true, recurses := true, named := ["math/bits.deBruijn64tab"], plainKeys := false, apart := false, laid := [("math/bits.deBruijn64tab", laid_math_bits_deBruijn64tab)], narrowed := true }
def WholeMergesUptoSaid : Prop := wholeMergesUptoRow.holds Tryz.pinned (OpenSpec.upto wholeMergesSpec)

/-- 'evergreentop.WholeEdits', WHERE WHAT IT READS IS OF BULK AT MOST 1048576: true; the input reads as it did. -/
def wholeEditsUptoRow : OpenClaim := { program := "ytgbhohfabhilgaagreatdoor", sum := "833f947d532f29ac5ad523acae9d6a9b535003fefb8007efef9f1f89b7d914c1", func := "evergreen/evergreentop.WholeEdits", spec := "wholeEdits", inPlace := ["slices.overlaps[evergreen/seam.item]"], unfollowed := true, recurses := true, named := ["math/bits.deBruijn64tab"], plainKeys := false, apart := false, laid := [("math/bits.deBruijn64tab", laid_math_bits_deBruijn64tab)], narrowed := true }
def WholeEditsUptoSaid : Prop := wholeEditsUptoRow.holds Tryz.pinned (OpenSpec.upto wholeEditsSpec)

/-- 'evergreentop.WholeFar', WHERE WHAT IT READS IS OF BULK AT MOST 1048576: true; the input reads as it did. -/
def wholeFarUptoRow : OpenClaim := { program := "ytgbhohfabhilgaagreatdoor", sum := "833f947d532f29ac5ad523acae9d6a9b535003fefb8007efef9f1f89b7d914c1", func := "evergreen/evergreentop.WholeFar", spec := "wholeFar", inPlace := ["slices.overlaps[evergreen/seam.item]"], unfollowed := true, recurses := true, named := ["math/bits.deBruijn64tab"], plainKeys := false, apart := false, laid := [("math/bits.deBruijn64tab", laid_math_bits_deBruijn64tab)], narrowed := true }
def WholeFarUptoSaid : Prop := wholeFarUptoRow.holds Tryz.pinned (OpenSpec.upto wholeFarSpec)

end Rows
end Go.Proofs.YtgbhohfabhilgaaGreatDoor
