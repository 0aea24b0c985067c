/-
  No cell of these rows narrows 'for every input' (looked for: loops, veiled, ifaces, maps, wideKeys, modest, calm, conditions, laid).
  DERIVED. THE GIVEN ROWS OF THIS SEAT. 9 by the template 'for every input the law returns true; each argument reads behind the call as it read before'; 0 by the template 'total and deterministic' (their statements: YtpjcfepngjpfbaaTotals.lean).
  GIVEN WITH THE SEED: the statements are not yours to turn. If you find one false, say at which input.
  Laid BY PROGRAM, IN A SANDBOX (cutbox-rows.mjs): the forced cells as the released guide's own fill.sh prints them over the translation 7c8395221eea8210… (all of the seat's roots in one cut). By AI agents, Wed Nov 11 2026. No macro, syntax, notation, axiom, sorry.
-/
import Derived.Test.YtpjcfepngjpfbaaChecked
import GoSem.Claim
import GoSem.ClaimJoined
import GoSem.ClaimMapViews
import Derived.JoinedTies
import Derived.KernelRfl
namespace Go.Proofs.Ytpjcfepngjpfbaa
/- THE CELL 'sum', in the pinned program and in every row, IS THE sha256 OF THE DUMP (.gsa) THAT YtpjcfepngjpfbaaProg.lean LOADS. Nothing in Lean hashes anything: it is a label: what it is worth is what the hold of that sum in a sandbox is worth. -/
noncomputable def Try.pinned : Pinned := { name := "ytpjcfepngjpfbaa", sum := "7c8395221eea821025a980964342bb0a69381263579dc20d8bd46a908de991f0", checked := Try.checked }
namespace Rows
def none {H : Type} : Left H := { results := [], args := [] }

/-- 'evergreenlaw17.WalkTwice': WHATEVER THE INPUT: true; the input reads as it did. -/
def walkTwiceSpec : ChangeSpec := { name := "walkTwice", fn := fun _ => fun
  | [d1, d2, d3] => { results := [.lit (.bool true)], args := [d1, d2, d3] }
  | _ => none }
def walkTwiceRow : OpenClaim := { program := "ytpjcfepngjpfbaa", sum := "7c8395221eea821025a980964342bb0a69381263579dc20d8bd46a908de991f0", func := "evergreen/evergreenlaw17.WalkTwice", spec := "walkTwice", unfollowed := true, recurses := true, plainKeys := false, apart := false }
def WalkTwiceSaid : Prop := walkTwiceRow.holds Try.pinned (OpenSpec.ofChange walkTwiceSpec)

/-- ITS FALSE NEIGHBOUR: 'it returns false'. Refute it at one input. -/
def walkTwiceWrong : ChangeSpec := { name := "walkTwice", fn := fun _ => fun
  | [d1, d2, d3] => { results := [.lit (.bool false)], args := [d1, d2, d3] }
  | _ => none }
def WalkTwiceWrongFalsely : Prop := walkTwiceRow.holds Try.pinned (OpenSpec.ofChange walkTwiceWrong)

/-- 'evergreenlaw17.WalkPieces': WHATEVER THE INPUT: true; the input reads as it did. -/
def walkPiecesSpec : ChangeSpec := { name := "walkPieces", fn := fun _ => fun
  | [d1, d2, d3] => { results := [.lit (.bool true)], args := [d1, d2, d3] }
  | _ => none }
def walkPiecesRow : OpenClaim := { program := "ytpjcfepngjpfbaa", sum := "7c8395221eea821025a980964342bb0a69381263579dc20d8bd46a908de991f0", func := "evergreen/evergreenlaw17.WalkPieces", spec := "walkPieces", unfollowed := true, recurses := true, plainKeys := false, apart := false }
def WalkPiecesSaid : Prop := walkPiecesRow.holds Try.pinned (OpenSpec.ofChange walkPiecesSpec)

/-- ITS FALSE NEIGHBOUR: 'it returns false'. Refute it at one input. -/
def walkPiecesWrong : ChangeSpec := { name := "walkPieces", fn := fun _ => fun
  | [d1, d2, d3] => { results := [.lit (.bool false)], args := [d1, d2, d3] }
  | _ => none }
def WalkPiecesWrongFalsely : Prop := walkPiecesRow.holds Try.pinned (OpenSpec.ofChange walkPiecesWrong)

/-- 'evergreenlaw17.WalkReferences': WHATEVER THE INPUT: true; the input reads as it did. -/
def walkReferencesSpec : ChangeSpec := { name := "walkReferences", fn := fun _ => fun
  | [d1, d2] => { results := [.lit (.bool true)], args := [d1, d2] }
  | _ => none }
def walkReferencesRow : OpenClaim := { program := "ytpjcfepngjpfbaa", sum := "7c8395221eea821025a980964342bb0a69381263579dc20d8bd46a908de991f0", func := "evergreen/evergreenlaw17.WalkReferences", spec := "walkReferences", unfollowed := true, recurses := true, plainKeys := false, apart := false }
def WalkReferencesSaid : Prop := walkReferencesRow.holds Try.pinned (OpenSpec.ofChange walkReferencesSpec)

/-- ITS FALSE NEIGHBOUR: 'it returns false'. Refute it at one input. -/
def walkReferencesWrong : ChangeSpec := { name := "walkReferences", fn := fun _ => fun
  | [d1, d2] => { results := [.lit (.bool false)], args := [d1, d2] }
  | _ => none }
def WalkReferencesWrongFalsely : Prop := walkReferencesRow.holds Try.pinned (OpenSpec.ofChange walkReferencesWrong)

/-- 'evergreenlaw17.WalkLetters': WHATEVER THE INPUT: true; the input reads as it did. -/
def walkLettersSpec : ChangeSpec := { name := "walkLetters", fn := fun _ => fun
  | [d1, d2] => { results := [.lit (.bool true)], args := [d1, d2] }
  | _ => none }
def walkLettersRow : OpenClaim := { program := "ytpjcfepngjpfbaa", sum := "7c8395221eea821025a980964342bb0a69381263579dc20d8bd46a908de991f0", func := "evergreen/evergreenlaw17.WalkLetters", spec := "walkLetters", unfollowed := true, recurses := true, plainKeys := false, apart := false }
def WalkLettersSaid : Prop := walkLettersRow.holds Try.pinned (OpenSpec.ofChange walkLettersSpec)

/-- ITS FALSE NEIGHBOUR: 'it returns false'. Refute it at one input. -/
def walkLettersWrong : ChangeSpec := { name := "walkLetters", fn := fun _ => fun
  | [d1, d2] => { results := [.lit (.bool false)], args := [d1, d2] }
  | _ => none }
def WalkLettersWrongFalsely : Prop := walkLettersRow.holds Try.pinned (OpenSpec.ofChange walkLettersWrong)

/-- 'evergreenlaw17.WalkBack': WHATEVER THE INPUT: true; the input reads as it did. -/
def walkBackSpec : ChangeSpec := { name := "walkBack", fn := fun _ => fun
  | [d1, d2] => { results := [.lit (.bool true)], args := [d1, d2] }
  | _ => none }
def walkBackRow : OpenClaim := { program := "ytpjcfepngjpfbaa", sum := "7c8395221eea821025a980964342bb0a69381263579dc20d8bd46a908de991f0", func := "evergreen/evergreenlaw17.WalkBack", spec := "walkBack", unfollowed := true, recurses := true, plainKeys := false, apart := false }
def WalkBackSaid : Prop := walkBackRow.holds Try.pinned (OpenSpec.ofChange walkBackSpec)

/-- ITS FALSE NEIGHBOUR: 'it returns false'. Refute it at one input. -/
def walkBackWrong : ChangeSpec := { name := "walkBack", fn := fun _ => fun
  | [d1, d2] => { results := [.lit (.bool false)], args := [d1, d2] }
  | _ => none }
def WalkBackWrongFalsely : Prop := walkBackRow.holds Try.pinned (OpenSpec.ofChange walkBackWrong)

/-- 'evergreenlaw17.WalkOrder': WHATEVER THE INPUT: true; the input reads as it did. -/
def walkOrderSpec : ChangeSpec := { name := "walkOrder", fn := fun _ => fun
  | [d] => { results := [.lit (.bool true)], args := [d] }
  | _ => none }
def walkOrderRow : OpenClaim := { program := "ytpjcfepngjpfbaa", sum := "7c8395221eea821025a980964342bb0a69381263579dc20d8bd46a908de991f0", func := "evergreen/evergreenlaw17.WalkOrder", spec := "walkOrder", unfollowed := true, recurses := true, plainKeys := false, apart := false }
def WalkOrderSaid : Prop := walkOrderRow.holds Try.pinned (OpenSpec.ofChange walkOrderSpec)

/-- ITS FALSE NEIGHBOUR: 'it returns false'. Refute it at one input. -/
def walkOrderWrong : ChangeSpec := { name := "walkOrder", fn := fun _ => fun
  | [d] => { results := [.lit (.bool false)], args := [d] }
  | _ => none }
def WalkOrderWrongFalsely : Prop := walkOrderRow.holds Try.pinned (OpenSpec.ofChange walkOrderWrong)

/-- 'evergreenlaw17.WalkStops': WHATEVER THE INPUT: true; the input reads as it did. -/
def walkStopsSpec : ChangeSpec := { name := "walkStops", fn := fun _ => fun
  | [d1, d2, d3] => { results := [.lit (.bool true)], args := [d1, d2, d3] }
  | _ => none }
def walkStopsRow : OpenClaim := { program := "ytpjcfepngjpfbaa", sum := "7c8395221eea821025a980964342bb0a69381263579dc20d8bd46a908de991f0", func := "evergreen/evergreenlaw17.WalkStops", spec := "walkStops", unfollowed := true, recurses := true, plainKeys := false, apart := false }
def WalkStopsSaid : Prop := walkStopsRow.holds Try.pinned (OpenSpec.ofChange walkStopsSpec)

/-- ITS FALSE NEIGHBOUR: 'it returns false'. Refute it at one input. -/
def walkStopsWrong : ChangeSpec := { name := "walkStops", fn := fun _ => fun
  | [d1, d2, d3] => { results := [.lit (.bool false)], args := [d1, d2, d3] }
  | _ => none }
def WalkStopsWrongFalsely : Prop := walkStopsRow.holds Try.pinned (OpenSpec.ofChange walkStopsWrong)

/-- 'evergreenlaw17.WalkNothing': WHATEVER THE INPUT: true; the input reads as it did. -/
def walkNothingSpec : ChangeSpec := { name := "walkNothing", fn := fun _ => fun
  | [d1, d2, d3] => { results := [.lit (.bool true)], args := [d1, d2, d3] }
  | _ => none }
def walkNothingRow : OpenClaim := { program := "ytpjcfepngjpfbaa", sum := "7c8395221eea821025a980964342bb0a69381263579dc20d8bd46a908de991f0", func := "evergreen/evergreenlaw17.WalkNothing", spec := "walkNothing", unfollowed := true, recurses := true, plainKeys := false, apart := false }
def WalkNothingSaid : Prop := walkNothingRow.holds Try.pinned (OpenSpec.ofChange walkNothingSpec)

/-- ITS FALSE NEIGHBOUR: 'it returns false'. Refute it at one input. -/
def walkNothingWrong : ChangeSpec := { name := "walkNothing", fn := fun _ => fun
  | [d1, d2, d3] => { results := [.lit (.bool false)], args := [d1, d2, d3] }
  | _ => none }
def WalkNothingWrongFalsely : Prop := walkNothingRow.holds Try.pinned (OpenSpec.ofChange walkNothingWrong)

/-- 'evergreenlaw17.WalkCovers': WHATEVER THE INPUT: true; the input reads as it did. -/
def walkCoversSpec : ChangeSpec := { name := "walkCovers", fn := fun _ => fun
  | [d1, d2, d3] => { results := [.lit (.bool true)], args := [d1, d2, d3] }
  | _ => none }
def walkCoversRow : OpenClaim := { program := "ytpjcfepngjpfbaa", sum := "7c8395221eea821025a980964342bb0a69381263579dc20d8bd46a908de991f0", func := "evergreen/evergreenlaw17.WalkCovers", spec := "walkCovers", unfollowed := true, recurses := true, plainKeys := false, apart := false }
def WalkCoversSaid : Prop := walkCoversRow.holds Try.pinned (OpenSpec.ofChange walkCoversSpec)

/-- ITS FALSE NEIGHBOUR: 'it returns false'. Refute it at one input. -/
def walkCoversWrong : ChangeSpec := { name := "walkCovers", fn := fun _ => fun
  | [d1, d2, d3] => { results := [.lit (.bool false)], args := [d1, d2, d3] }
  | _ => none }
def WalkCoversWrongFalsely : Prop := walkCoversRow.holds Try.pinned (OpenSpec.ofChange walkCoversWrong)

/- THE SECOND FORM. 'bulk': how many values and letters a reading holds, each counted each time it is reached (what is shared counts as often as it is met; a slice's spare places count too). A statement '..UptoSaid' is the law's where the arguments, and the package variables that the reading takes, are together of bulk at most 1048576: NARROWER than '..Said'. Prove '..Said' where nothing that the law and all that it calls make is longer than what came in: it says more and counts as full. Else prove '..UptoSaid'. A law counts once. -/
mutual
def uptoBulk {H : Type} : DataW H → Nat
  | .lit (.string bytes) => bytes.length + 1
  | .lit _ => 1
  | .nil => 1
  | .ptr d => uptoBulk d + 1
  | .slice elems spare => uptoBulkAll elems + uptoBulkAll spare + 1
  | .agg parts => uptoBulkAll parts + 1
  | .iface _ d => uptoBulk d + 1
  | .map entries => uptoBulkEntries entries + 1
  | .held _ => 1
def uptoBulkAll {H : Type} : List (DataW H) → Nat
  | [] => 0
  | d :: r => uptoBulk d + uptoBulkAll r
def uptoBulkEntries {H : Type} : List (Lit × DataW H) → Nat
  | [] => 0
  | x :: r => uptoBulkEntry x + uptoBulkEntries r
def uptoBulkEntry {H : Type} : Lit × DataW H → Nat
  | (.string bytes, d) => bytes.length + uptoBulk d + 1
  | (_, d) => uptoBulk d + 1
 end
def uptoSmall : (H : Type) → List (DataW H) → Bool := fun _ ds => decide (uptoBulkAll ds ≤ 1048576)
def OpenSpec.upto (s : _root_.Go.ChangeSpec) : _root_.Go.OpenSpec := { _root_.Go.OpenSpec.ofChange s with cond := some uptoSmall }

/-- 'evergreenlaw17.WalkTwice', WHERE WHAT IT READS IS OF BULK AT MOST 1048576: true; the input reads as it did. -/
def walkTwiceUptoRow : OpenClaim := { program := "ytpjcfepngjpfbaa", sum := "7c8395221eea821025a980964342bb0a69381263579dc20d8bd46a908de991f0", func := "evergreen/evergreenlaw17.WalkTwice", spec := "walkTwice", unfollowed := true, recurses := true, plainKeys := false, apart := false, narrowed := true }
def WalkTwiceUptoSaid : Prop := walkTwiceUptoRow.holds Try.pinned (OpenSpec.upto walkTwiceSpec)

/-- 'evergreenlaw17.WalkPieces', WHERE WHAT IT READS IS OF BULK AT MOST 1048576: true; the input reads as it did. -/
def walkPiecesUptoRow : OpenClaim := { program := "ytpjcfepngjpfbaa", sum := "7c8395221eea821025a980964342bb0a69381263579dc20d8bd46a908de991f0", func := "evergreen/evergreenlaw17.WalkPieces", spec := "walkPieces", unfollowed := true, recurses := true, plainKeys := false, apart := false, narrowed := true }
def WalkPiecesUptoSaid : Prop := walkPiecesUptoRow.holds Try.pinned (OpenSpec.upto walkPiecesSpec)

/-- 'evergreenlaw17.WalkReferences', WHERE WHAT IT READS IS OF BULK AT MOST 1048576: true; the input reads as it did. -/
def walkReferencesUptoRow : OpenClaim := { program := "ytpjcfepngjpfbaa", sum := "7c8395221eea821025a980964342bb0a69381263579dc20d8bd46a908de991f0", func := "evergreen/evergreenlaw17.WalkReferences", spec := "walkReferences", unfollowed := true, recurses := true, plainKeys := false, apart := false, narrowed := true }
def WalkReferencesUptoSaid : Prop := walkReferencesUptoRow.holds Try.pinned (OpenSpec.upto walkReferencesSpec)

/-- 'evergreenlaw17.WalkLetters', WHERE WHAT IT READS IS OF BULK AT MOST 1048576: true; the input reads as it did. -/
def walkLettersUptoRow : OpenClaim := { program := "ytpjcfepngjpfbaa", sum := "7c8395221eea821025a980964342bb0a69381263579dc20d8bd46a908de991f0", func := "evergreen/evergreenlaw17.WalkLetters", spec := "walkLetters", unfollowed := true, recurses := true, plainKeys := false, apart := false, narrowed := true }
def WalkLettersUptoSaid : Prop := walkLettersUptoRow.holds Try.pinned (OpenSpec.upto walkLettersSpec)

/-- 'evergreenlaw17.WalkBack', WHERE WHAT IT READS IS OF BULK AT MOST 1048576: true; the input reads as it did. -/
def walkBackUptoRow : OpenClaim := { program := "ytpjcfepngjpfbaa", sum := "7c8395221eea821025a980964342bb0a69381263579dc20d8bd46a908de991f0", func := "evergreen/evergreenlaw17.WalkBack", spec := "walkBack", unfollowed := true, recurses := true, plainKeys := false, apart := false, narrowed := true }
def WalkBackUptoSaid : Prop := walkBackUptoRow.holds Try.pinned (OpenSpec.upto walkBackSpec)

/-- 'evergreenlaw17.WalkOrder', WHERE WHAT IT READS IS OF BULK AT MOST 1048576: true; the input reads as it did. -/
def walkOrderUptoRow : OpenClaim := { program := "ytpjcfepngjpfbaa", sum := "7c8395221eea821025a980964342bb0a69381263579dc20d8bd46a908de991f0", func := "evergreen/evergreenlaw17.WalkOrder", spec := "walkOrder", unfollowed := true, recurses := true, plainKeys := false, apart := false, narrowed := true }
def WalkOrderUptoSaid : Prop := walkOrderUptoRow.holds Try.pinned (OpenSpec.upto walkOrderSpec)

/-- 'evergreenlaw17.WalkStops', WHERE WHAT IT READS IS OF BULK AT MOST 1048576: true; the input reads as it did. -/
def walkStopsUptoRow : OpenClaim := { program := "ytpjcfepngjpfbaa", sum := "7c8395221eea821025a980964342bb0a69381263579dc20d8bd46a908de991f0", func := "evergreen/evergreenlaw17.WalkStops", spec := "walkStops", unfollowed := true, recurses := true, plainKeys := false, apart := false, narrowed := true }
def WalkStopsUptoSaid : Prop := walkStopsUptoRow.holds Try.pinned (OpenSpec.upto walkStopsSpec)

/-- 'evergreenlaw17.WalkNothing', WHERE WHAT IT READS IS OF BULK AT MOST 1048576: true; the input reads as it did. -/
def walkNothingUptoRow : OpenClaim := { program := "ytpjcfepngjpfbaa", sum := "7c8395221eea821025a980964342bb0a69381263579dc20d8bd46a908de991f0", func := "evergreen/evergreenlaw17.WalkNothing", spec := "walkNothing", unfollowed := true, recurses := true, plainKeys := false, apart := false, narrowed := true }
def WalkNothingUptoSaid : Prop := walkNothingUptoRow.holds Try.pinned (OpenSpec.upto walkNothingSpec)

/-- 'evergreenlaw17.WalkCovers', WHERE WHAT IT READS IS OF BULK AT MOST 1048576: true; the input reads as it did. -/
def walkCoversUptoRow : OpenClaim := { program := "ytpjcfepngjpfbaa", sum := "7c8395221eea821025a980964342bb0a69381263579dc20d8bd46a908de991f0", func := "evergreen/evergreenlaw17.WalkCovers", spec := "walkCovers", unfollowed := true, recurses := true, plainKeys := false, apart := false, narrowed := true }
def WalkCoversUptoSaid : Prop := walkCoversUptoRow.holds Try.pinned (OpenSpec.upto walkCoversSpec)

end Rows
end Go.Proofs.Ytpjcfepngjpfbaa
