/-
  No cell of these rows narrows 'for every input' (looked for: loops, veiled, ifaces, maps, wideKeys, modest, calm, conditions, laid).
  DERIVED. THE GIVEN ROWS OF THIS SEAT. 8 by the template 'for every input the law returns true; each argument reads behind the call as it read before'; 0 by the template 'total and deterministic' (their statements: YtpgnhnimndagpaaTotals.lean).
  GIVEN WITH THE SEED: the statements are not yours to turn. If you find one false, say at which input.
  Laid BY PROGRAM, IN A SANDBOX (cutbox-rows.mjs): the forced cells as the released guide's own fill.sh prints them over the translation b1383f3260980abb… (all of the seat's roots in one cut). By AI agents, Wed Nov 11 2026. No macro, syntax, notation, axiom, sorry.
-/
import Derived.Test.YtpgnhnimndagpaaChecked
import GoSem.Claim
import GoSem.ClaimJoined
import GoSem.ClaimMapViews
import Derived.JoinedTies
import Derived.KernelRfl
namespace Go.Proofs.Ytpgnhnimndagpaa
/- THE CELL 'sum', in the pinned program and in every row, IS THE sha256 OF THE DUMP (.gsa) THAT YtpgnhnimndagpaaProg.lean LOADS. Nothing in Lean hashes anything: it is a label: what it is worth is what the hold of that sum in a sandbox is worth. -/
noncomputable def Try.pinned : Pinned := { name := "ytpgnhnimndagpaa", sum := "b1383f3260980abb64df4e242ec9ced677a0d88ccd92ddf98761a9e0ddfebce8", checked := Try.checked }
namespace Rows
def none {H : Type} : Left H := { results := [], args := [] }

/-- 'evergreenlaw03.MonoidPowers': WHATEVER THE INPUT: true; the input reads as it did. -/
def monoidPowersSpec : ChangeSpec := { name := "monoidPowers", fn := fun _ => fun
  | [d1, d2, d3, d4, d5] => { results := [.lit (.bool true)], args := [d1, d2, d3, d4, d5] }
  | _ => none }
def monoidPowersRow : OpenClaim := { program := "ytpgnhnimndagpaa", sum := "b1383f3260980abb64df4e242ec9ced677a0d88ccd92ddf98761a9e0ddfebce8", func := "evergreen/evergreenlaw03.MonoidPowers", spec := "monoidPowers", unfollowed := true, recurses := true, apart := false }
def MonoidPowersSaid : Prop := monoidPowersRow.holds Try.pinned (OpenSpec.ofChange monoidPowersSpec)

/-- ITS FALSE NEIGHBOUR: 'it returns false'. Refute it at one input. -/
def monoidPowersWrong : ChangeSpec := { name := "monoidPowers", fn := fun _ => fun
  | [d1, d2, d3, d4, d5] => { results := [.lit (.bool false)], args := [d1, d2, d3, d4, d5] }
  | _ => none }
def MonoidPowersWrongFalsely : Prop := monoidPowersRow.holds Try.pinned (OpenSpec.ofChange monoidPowersWrong)

/-- 'evergreenlaw03.MonoidWindows': WHATEVER THE INPUT: true; the input reads as it did. -/
def monoidWindowsSpec : ChangeSpec := { name := "monoidWindows", fn := fun _ => fun
  | [d1, d2] => { results := [.lit (.bool true)], args := [d1, d2] }
  | _ => none }
def monoidWindowsRow : OpenClaim := { program := "ytpgnhnimndagpaa", sum := "b1383f3260980abb64df4e242ec9ced677a0d88ccd92ddf98761a9e0ddfebce8", func := "evergreen/evergreenlaw03.MonoidWindows", spec := "monoidWindows", unfollowed := true, recurses := true, apart := false }
def MonoidWindowsSaid : Prop := monoidWindowsRow.holds Try.pinned (OpenSpec.ofChange monoidWindowsSpec)

/-- ITS FALSE NEIGHBOUR: 'it returns false'. Refute it at one input. -/
def monoidWindowsWrong : ChangeSpec := { name := "monoidWindows", fn := fun _ => fun
  | [d1, d2] => { results := [.lit (.bool false)], args := [d1, d2] }
  | _ => none }
def MonoidWindowsWrongFalsely : Prop := monoidWindowsRow.holds Try.pinned (OpenSpec.ofChange monoidWindowsWrong)

/-- 'evergreenlaw03.MonoidShifts': WHATEVER THE INPUT: true; the input reads as it did. -/
def monoidShiftsSpec : ChangeSpec := { name := "monoidShifts", fn := fun _ => fun
  | [d1, d2] => { results := [.lit (.bool true)], args := [d1, d2] }
  | _ => none }
def monoidShiftsRow : OpenClaim := { program := "ytpgnhnimndagpaa", sum := "b1383f3260980abb64df4e242ec9ced677a0d88ccd92ddf98761a9e0ddfebce8", func := "evergreen/evergreenlaw03.MonoidShifts", spec := "monoidShifts", unfollowed := true, recurses := true, apart := false }
def MonoidShiftsSaid : Prop := monoidShiftsRow.holds Try.pinned (OpenSpec.ofChange monoidShiftsSpec)

/-- ITS FALSE NEIGHBOUR: 'it returns false'. Refute it at one input. -/
def monoidShiftsWrong : ChangeSpec := { name := "monoidShifts", fn := fun _ => fun
  | [d1, d2] => { results := [.lit (.bool false)], args := [d1, d2] }
  | _ => none }
def MonoidShiftsWrongFalsely : Prop := monoidShiftsRow.holds Try.pinned (OpenSpec.ofChange monoidShiftsWrong)

/-- 'evergreenlaw03.MonoidInts': WHATEVER THE INPUT: true; the input reads as it did. -/
def monoidIntsSpec : ChangeSpec := { name := "monoidInts", fn := fun _ => fun
  | [d] => { results := [.lit (.bool true)], args := [d] }
  | _ => none }
def monoidIntsRow : OpenClaim := { program := "ytpgnhnimndagpaa", sum := "b1383f3260980abb64df4e242ec9ced677a0d88ccd92ddf98761a9e0ddfebce8", func := "evergreen/evergreenlaw03.MonoidInts", spec := "monoidInts", unfollowed := true, recurses := true, apart := false }
def MonoidIntsSaid : Prop := monoidIntsRow.holds Try.pinned (OpenSpec.ofChange monoidIntsSpec)

/-- ITS FALSE NEIGHBOUR: 'it returns false'. Refute it at one input. -/
def monoidIntsWrong : ChangeSpec := { name := "monoidInts", fn := fun _ => fun
  | [d] => { results := [.lit (.bool false)], args := [d] }
  | _ => none }
def MonoidIntsWrongFalsely : Prop := monoidIntsRow.holds Try.pinned (OpenSpec.ofChange monoidIntsWrong)

/-- 'evergreenlaw03.MonoidAffines': WHATEVER THE INPUT: true; the input reads as it did. -/
def monoidAffinesSpec : ChangeSpec := { name := "monoidAffines", fn := fun _ => fun
  | [d1, d2, d3, d4, d5] => { results := [.lit (.bool true)], args := [d1, d2, d3, d4, d5] }
  | _ => none }
def monoidAffinesRow : OpenClaim := { program := "ytpgnhnimndagpaa", sum := "b1383f3260980abb64df4e242ec9ced677a0d88ccd92ddf98761a9e0ddfebce8", func := "evergreen/evergreenlaw03.MonoidAffines", spec := "monoidAffines", unfollowed := true, recurses := true, apart := false }
def MonoidAffinesSaid : Prop := monoidAffinesRow.holds Try.pinned (OpenSpec.ofChange monoidAffinesSpec)

/-- ITS FALSE NEIGHBOUR: 'it returns false'. Refute it at one input. -/
def monoidAffinesWrong : ChangeSpec := { name := "monoidAffines", fn := fun _ => fun
  | [d1, d2, d3, d4, d5] => { results := [.lit (.bool false)], args := [d1, d2, d3, d4, d5] }
  | _ => none }
def MonoidAffinesWrongFalsely : Prop := monoidAffinesRow.holds Try.pinned (OpenSpec.ofChange monoidAffinesWrong)

/-- 'evergreenlaw03.MonoidMaps': WHATEVER THE INPUT: true; the input reads as it did. -/
def monoidMapsSpec : ChangeSpec := { name := "monoidMaps", fn := fun _ => fun
  | [d1, d2] => { results := [.lit (.bool true)], args := [d1, d2] }
  | _ => none }
def monoidMapsRow : OpenClaim := { program := "ytpgnhnimndagpaa", sum := "b1383f3260980abb64df4e242ec9ced677a0d88ccd92ddf98761a9e0ddfebce8", func := "evergreen/evergreenlaw03.MonoidMaps", spec := "monoidMaps", unfollowed := true, recurses := true, apart := false }
def MonoidMapsSaid : Prop := monoidMapsRow.holds Try.pinned (OpenSpec.ofChange monoidMapsSpec)

/-- ITS FALSE NEIGHBOUR: 'it returns false'. Refute it at one input. -/
def monoidMapsWrong : ChangeSpec := { name := "monoidMaps", fn := fun _ => fun
  | [d1, d2] => { results := [.lit (.bool false)], args := [d1, d2] }
  | _ => none }
def MonoidMapsWrongFalsely : Prop := monoidMapsRow.holds Try.pinned (OpenSpec.ofChange monoidMapsWrong)

/-- 'evergreenlaw03.MonoidFolds': WHATEVER THE INPUT: true; the input reads as it did. -/
def monoidFoldsSpec : ChangeSpec := { name := "monoidFolds", fn := fun _ => fun
  | [d1, d2] => { results := [.lit (.bool true)], args := [d1, d2] }
  | _ => none }
def monoidFoldsRow : OpenClaim := { program := "ytpgnhnimndagpaa", sum := "b1383f3260980abb64df4e242ec9ced677a0d88ccd92ddf98761a9e0ddfebce8", func := "evergreen/evergreenlaw03.MonoidFolds", spec := "monoidFolds", unfollowed := true, recurses := true, apart := false }
def MonoidFoldsSaid : Prop := monoidFoldsRow.holds Try.pinned (OpenSpec.ofChange monoidFoldsSpec)

/-- ITS FALSE NEIGHBOUR: 'it returns false'. Refute it at one input. -/
def monoidFoldsWrong : ChangeSpec := { name := "monoidFolds", fn := fun _ => fun
  | [d1, d2] => { results := [.lit (.bool false)], args := [d1, d2] }
  | _ => none }
def MonoidFoldsWrongFalsely : Prop := monoidFoldsRow.holds Try.pinned (OpenSpec.ofChange monoidFoldsWrong)

/-- 'evergreenlaw03.MonoidCalls': WHATEVER THE INPUT: true; the input reads as it did. -/
def monoidCallsSpec : ChangeSpec := { name := "monoidCalls", fn := fun _ => fun
  | [d1, d2, d3] => { results := [.lit (.bool true)], args := [d1, d2, d3] }
  | _ => none }
def monoidCallsRow : OpenClaim := { program := "ytpgnhnimndagpaa", sum := "b1383f3260980abb64df4e242ec9ced677a0d88ccd92ddf98761a9e0ddfebce8", func := "evergreen/evergreenlaw03.MonoidCalls", spec := "monoidCalls", unfollowed := true, recurses := true, apart := false }
def MonoidCallsSaid : Prop := monoidCallsRow.holds Try.pinned (OpenSpec.ofChange monoidCallsSpec)

/-- ITS FALSE NEIGHBOUR: 'it returns false'. Refute it at one input. -/
def monoidCallsWrong : ChangeSpec := { name := "monoidCalls", fn := fun _ => fun
  | [d1, d2, d3] => { results := [.lit (.bool false)], args := [d1, d2, d3] }
  | _ => none }
def MonoidCallsWrongFalsely : Prop := monoidCallsRow.holds Try.pinned (OpenSpec.ofChange monoidCallsWrong)

/- THE SECOND FORM. 'bulk': how many values and letters a reading holds, each counted each time it is reached (what is shared counts as often as it is met; a slice's spare places count too). A statement '..UptoSaid' is the law's where the arguments, and the package variables that the reading takes, are together of bulk at most 1048576: NARROWER than '..Said'. Prove '..Said' where nothing that the law and all that it calls make is longer than what came in: it says more and counts as full. Else prove '..UptoSaid'. A law counts once. -/
mutual
def uptoBulk {H : Type} : DataW H → Nat
  | .lit (.string bytes) => bytes.length + 1
  | .lit _ => 1
  | .nil => 1
  | .ptr d => uptoBulk d + 1
  | .slice elems spare => uptoBulkAll elems + uptoBulkAll spare + 1
  | .agg parts => uptoBulkAll parts + 1
  | .iface _ d => uptoBulk d + 1
  | .map entries => uptoBulkEntries entries + 1
  | .held _ => 1
def uptoBulkAll {H : Type} : List (DataW H) → Nat
  | [] => 0
  | d :: r => uptoBulk d + uptoBulkAll r
def uptoBulkEntries {H : Type} : List (Lit × DataW H) → Nat
  | [] => 0
  | x :: r => uptoBulkEntry x + uptoBulkEntries r
def uptoBulkEntry {H : Type} : Lit × DataW H → Nat
  | (.string bytes, d) => bytes.length + uptoBulk d + 1
  | (_, d) => uptoBulk d + 1
 end
def uptoSmall : (H : Type) → List (DataW H) → Bool := fun _ ds => decide (uptoBulkAll ds ≤ 1048576)
def OpenSpec.upto (s : _root_.Go.ChangeSpec) : _root_.Go.OpenSpec := { _root_.Go.OpenSpec.ofChange s with cond := some uptoSmall }

/-- 'evergreenlaw03.MonoidPowers', WHERE WHAT IT READS IS OF BULK AT MOST 1048576: true; the input reads as it did. -/
def monoidPowersUptoRow : OpenClaim := { program := "ytpgnhnimndagpaa", sum := "b1383f3260980abb64df4e242ec9ced677a0d88ccd92ddf98761a9e0ddfebce8", func := "evergreen/evergreenlaw03.MonoidPowers", spec := "monoidPowers", unfollowed := true, recurses := true, apart := false, narrowed := true }
def MonoidPowersUptoSaid : Prop := monoidPowersUptoRow.holds Try.pinned (OpenSpec.upto monoidPowersSpec)

/-- 'evergreenlaw03.MonoidWindows', WHERE WHAT IT READS IS OF BULK AT MOST 1048576: true; the input reads as it did. -/
def monoidWindowsUptoRow : OpenClaim := { program := "ytpgnhnimndagpaa", sum := "b1383f3260980abb64df4e242ec9ced677a0d88ccd92ddf98761a9e0ddfebce8", func := "evergreen/evergreenlaw03.MonoidWindows", spec := "monoidWindows", unfollowed := true, recurses := true, apart := false, narrowed := true }
def MonoidWindowsUptoSaid : Prop := monoidWindowsUptoRow.holds Try.pinned (OpenSpec.upto monoidWindowsSpec)

/-- 'evergreenlaw03.MonoidShifts', WHERE WHAT IT READS IS OF BULK AT MOST 1048576: true; the input reads as it did. -/
def monoidShiftsUptoRow : OpenClaim := { program := "ytpgnhnimndagpaa", sum := "b1383f3260980abb64df4e242ec9ced677a0d88ccd92ddf98761a9e0ddfebce8", func := "evergreen/evergreenlaw03.MonoidShifts", spec := "monoidShifts", unfollowed := true, recurses := true, apart := false, narrowed := true }
def MonoidShiftsUptoSaid : Prop := monoidShiftsUptoRow.holds Try.pinned (OpenSpec.upto monoidShiftsSpec)

/-- 'evergreenlaw03.MonoidInts', WHERE WHAT IT READS IS OF BULK AT MOST 1048576: true; the input reads as it did. -/
def monoidIntsUptoRow : OpenClaim := { program := "ytpgnhnimndagpaa", sum := "b1383f3260980abb64df4e242ec9ced677a0d88ccd92ddf98761a9e0ddfebce8", func := "evergreen/evergreenlaw03.MonoidInts", spec := "monoidInts", unfollowed := true, recurses := true, apart := false, narrowed := true }
def MonoidIntsUptoSaid : Prop := monoidIntsUptoRow.holds Try.pinned (OpenSpec.upto monoidIntsSpec)

/-- 'evergreenlaw03.MonoidAffines', WHERE WHAT IT READS IS OF BULK AT MOST 1048576: true; the input reads as it did. -/
def monoidAffinesUptoRow : OpenClaim := { program := "ytpgnhnimndagpaa", sum := "b1383f3260980abb64df4e242ec9ced677a0d88ccd92ddf98761a9e0ddfebce8", func := "evergreen/evergreenlaw03.MonoidAffines", spec := "monoidAffines", unfollowed := true, recurses := true, apart := false, narrowed := true }
def MonoidAffinesUptoSaid : Prop := monoidAffinesUptoRow.holds Try.pinned (OpenSpec.upto monoidAffinesSpec)

/-- 'evergreenlaw03.MonoidMaps', WHERE WHAT IT READS IS OF BULK AT MOST 1048576: true; the input reads as it did. -/
def monoidMapsUptoRow : OpenClaim := { program := "ytpgnhnimndagpaa", sum := "b1383f3260980abb64df4e242ec9ced677a0d88ccd92ddf98761a9e0ddfebce8", func := "evergreen/evergreenlaw03.MonoidMaps", spec := "monoidMaps", unfollowed := true, recurses := true, apart := false, narrowed := true }
def MonoidMapsUptoSaid : Prop := monoidMapsUptoRow.holds Try.pinned (OpenSpec.upto monoidMapsSpec)

/-- 'evergreenlaw03.MonoidFolds', WHERE WHAT IT READS IS OF BULK AT MOST 1048576: true; the input reads as it did. -/
def monoidFoldsUptoRow : OpenClaim := { program := "ytpgnhnimndagpaa", sum := "b1383f3260980abb64df4e242ec9ced677a0d88ccd92ddf98761a9e0ddfebce8", func := "evergreen/evergreenlaw03.MonoidFolds", spec := "monoidFolds", unfollowed := true, recurses := true, apart := false, narrowed := true }
def MonoidFoldsUptoSaid : Prop := monoidFoldsUptoRow.holds Try.pinned (OpenSpec.upto monoidFoldsSpec)

/-- 'evergreenlaw03.MonoidCalls', WHERE WHAT IT READS IS OF BULK AT MOST 1048576: true; the input reads as it did. -/
def monoidCallsUptoRow : OpenClaim := { program := "ytpgnhnimndagpaa", sum := "b1383f3260980abb64df4e242ec9ced677a0d88ccd92ddf98761a9e0ddfebce8", func := "evergreen/evergreenlaw03.MonoidCalls", spec := "monoidCalls", unfollowed := true, recurses := true, apart := false, narrowed := true }
def MonoidCallsUptoSaid : Prop := monoidCallsUptoRow.holds Try.pinned (OpenSpec.upto monoidCallsSpec)

end Rows
end Go.Proofs.Ytpgnhnimndagpaa
