/-
  No cell of these rows narrows 'for every input' (looked for: loops, veiled, ifaces, maps, wideKeys, modest, calm, conditions, laid).
  DERIVED. THE GIVEN ROWS OF THIS SEAT. 8 by the template 'for every input the law returns true; each argument reads behind the call as it read before'; 0 by the template 'total and deterministic' (their statements: YtjbllcakaljpgaaTotals.lean).
  GIVEN WITH THE SEED: the statements are not yours to turn. If you find one false, say at which input.
  Laid BY PROGRAM, IN A SANDBOX (cutbox-rows.mjs): the forced cells as the released guide's own fill.sh prints them over the translation 71adfe6d143aa33d… (all of the seat's roots in one cut). By AI agents, Wed Nov 11 2026. No macro, syntax, notation, axiom, sorry.
-/
import Derived.Test.YtjbllcakaljpgaaChecked
import GoSem.Claim
import GoSem.ClaimJoined
import GoSem.ClaimMapViews
import Derived.JoinedTies
import Derived.KernelRfl
namespace Go.Proofs.Ytjbllcakaljpgaa
/- THE CELL 'sum', in the pinned program and in every row, IS THE sha256 OF THE DUMP (.gsa) THAT YtjbllcakaljpgaaProg.lean LOADS. Nothing in Lean hashes anything: it is a label: what it is worth is what the hold of that sum in a sandbox is worth. -/
noncomputable def Try.pinned : Pinned := { name := "ytjbllcakaljpgaa", sum := "71adfe6d143aa33d43295b6d860f42417fe9fccdad4645b9aec034ee83ab0b5e", checked := Try.checked }
namespace Rows
def none {H : Type} : Left H := { results := [], args := [] }

/-- 'evergreenlaw18.CursorSkips': WHATEVER THE INPUT: true; the input reads as it did. -/
def cursorSkipsSpec : ChangeSpec := { name := "cursorSkips", fn := fun _ => fun
  | [d1, d2, d3] => { results := [.lit (.bool true)], args := [d1, d2, d3] }
  | _ => none }
def cursorSkipsRow : OpenClaim := { program := "ytjbllcakaljpgaa", sum := "71adfe6d143aa33d43295b6d860f42417fe9fccdad4645b9aec034ee83ab0b5e", func := "evergreen/evergreenlaw18.CursorSkips", spec := "cursorSkips", plainKeys := false, apart := false }
def CursorSkipsSaid : Prop := cursorSkipsRow.holds Try.pinned (OpenSpec.ofChange cursorSkipsSpec)

/-- ITS FALSE NEIGHBOUR: 'it returns false'. Refute it at one input. -/
def cursorSkipsWrong : ChangeSpec := { name := "cursorSkips", fn := fun _ => fun
  | [d1, d2, d3] => { results := [.lit (.bool false)], args := [d1, d2, d3] }
  | _ => none }
def CursorSkipsWrongFalsely : Prop := cursorSkipsRow.holds Try.pinned (OpenSpec.ofChange cursorSkipsWrong)

/-- 'evergreenlaw18.CursorBack': WHATEVER THE INPUT: true; the input reads as it did. -/
def cursorBackSpec : ChangeSpec := { name := "cursorBack", fn := fun _ => fun
  | [d] => { results := [.lit (.bool true)], args := [d] }
  | _ => none }
def cursorBackRow : OpenClaim := { program := "ytjbllcakaljpgaa", sum := "71adfe6d143aa33d43295b6d860f42417fe9fccdad4645b9aec034ee83ab0b5e", func := "evergreen/evergreenlaw18.CursorBack", spec := "cursorBack", plainKeys := false, apart := false }
def CursorBackSaid : Prop := cursorBackRow.holds Try.pinned (OpenSpec.ofChange cursorBackSpec)

/-- ITS FALSE NEIGHBOUR: 'it returns false'. Refute it at one input. -/
def cursorBackWrong : ChangeSpec := { name := "cursorBack", fn := fun _ => fun
  | [d] => { results := [.lit (.bool false)], args := [d] }
  | _ => none }
def CursorBackWrongFalsely : Prop := cursorBackRow.holds Try.pinned (OpenSpec.ofChange cursorBackWrong)

/-- 'evergreenlaw18.CursorReads': WHATEVER THE INPUT: true; the input reads as it did. -/
def cursorReadsSpec : ChangeSpec := { name := "cursorReads", fn := fun _ => fun
  | [d] => { results := [.lit (.bool true)], args := [d] }
  | _ => none }
def cursorReadsRow : OpenClaim := { program := "ytjbllcakaljpgaa", sum := "71adfe6d143aa33d43295b6d860f42417fe9fccdad4645b9aec034ee83ab0b5e", func := "evergreen/evergreenlaw18.CursorReads", spec := "cursorReads", unfollowed := true, recurses := true, plainKeys := false, apart := false }
def CursorReadsSaid : Prop := cursorReadsRow.holds Try.pinned (OpenSpec.ofChange cursorReadsSpec)

/-- ITS FALSE NEIGHBOUR: 'it returns false'. Refute it at one input. -/
def cursorReadsWrong : ChangeSpec := { name := "cursorReads", fn := fun _ => fun
  | [d] => { results := [.lit (.bool false)], args := [d] }
  | _ => none }
def CursorReadsWrongFalsely : Prop := cursorReadsRow.holds Try.pinned (OpenSpec.ofChange cursorReadsWrong)

/-- 'evergreenlaw18.CursorLines': WHATEVER THE INPUT: true; the input reads as it did. -/
def cursorLinesSpec : ChangeSpec := { name := "cursorLines", fn := fun _ => fun
  | [d1, d2, d3] => { results := [.lit (.bool true)], args := [d1, d2, d3] }
  | _ => none }
def cursorLinesRow : OpenClaim := { program := "ytjbllcakaljpgaa", sum := "71adfe6d143aa33d43295b6d860f42417fe9fccdad4645b9aec034ee83ab0b5e", func := "evergreen/evergreenlaw18.CursorLines", spec := "cursorLines", unfollowed := true, recurses := true, plainKeys := false, apart := false }
def CursorLinesSaid : Prop := cursorLinesRow.holds Try.pinned (OpenSpec.ofChange cursorLinesSpec)

/-- ITS FALSE NEIGHBOUR: 'it returns false'. Refute it at one input. -/
def cursorLinesWrong : ChangeSpec := { name := "cursorLines", fn := fun _ => fun
  | [d1, d2, d3] => { results := [.lit (.bool false)], args := [d1, d2, d3] }
  | _ => none }
def CursorLinesWrongFalsely : Prop := cursorLinesRow.holds Try.pinned (OpenSpec.ofChange cursorLinesWrong)

/-- 'evergreenlaw18.CursorPlays': WHATEVER THE INPUT: true; the input reads as it did. -/
def cursorPlaysSpec : ChangeSpec := { name := "cursorPlays", fn := fun _ => fun
  | [d1, d2, d3] => { results := [.lit (.bool true)], args := [d1, d2, d3] }
  | _ => none }
def cursorPlaysRow : OpenClaim := { program := "ytjbllcakaljpgaa", sum := "71adfe6d143aa33d43295b6d860f42417fe9fccdad4645b9aec034ee83ab0b5e", func := "evergreen/evergreenlaw18.CursorPlays", spec := "cursorPlays", unfollowed := true, recurses := true, plainKeys := false, apart := false }
def CursorPlaysSaid : Prop := cursorPlaysRow.holds Try.pinned (OpenSpec.ofChange cursorPlaysSpec)

/-- ITS FALSE NEIGHBOUR: 'it returns false'. Refute it at one input. -/
def cursorPlaysWrong : ChangeSpec := { name := "cursorPlays", fn := fun _ => fun
  | [d1, d2, d3] => { results := [.lit (.bool false)], args := [d1, d2, d3] }
  | _ => none }
def CursorPlaysWrongFalsely : Prop := cursorPlaysRow.holds Try.pinned (OpenSpec.ofChange cursorPlaysWrong)

/-- 'evergreenlaw18.CursorGreat': WHATEVER THE INPUT: true; the input reads as it did. -/
def cursorGreatSpec : ChangeSpec := { name := "cursorGreat", fn := fun _ => fun
  | [d1, d2, d3] => { results := [.lit (.bool true)], args := [d1, d2, d3] }
  | _ => none }
def cursorGreatRow : OpenClaim := { program := "ytjbllcakaljpgaa", sum := "71adfe6d143aa33d43295b6d860f42417fe9fccdad4645b9aec034ee83ab0b5e", func := "evergreen/evergreenlaw18.CursorGreat", spec := "cursorGreat", unfollowed := true, recurses := true, plainKeys := false, apart := false }
def CursorGreatSaid : Prop := cursorGreatRow.holds Try.pinned (OpenSpec.ofChange cursorGreatSpec)

/-- ITS FALSE NEIGHBOUR: 'it returns false'. Refute it at one input. -/
def cursorGreatWrong : ChangeSpec := { name := "cursorGreat", fn := fun _ => fun
  | [d1, d2, d3] => { results := [.lit (.bool false)], args := [d1, d2, d3] }
  | _ => none }
def CursorGreatWrongFalsely : Prop := cursorGreatRow.holds Try.pinned (OpenSpec.ofChange cursorGreatWrong)

/-- 'evergreenlaw18.CursorCopies': WHATEVER THE INPUT: true; the input reads as it did. -/
def cursorCopiesSpec : ChangeSpec := { name := "cursorCopies", fn := fun _ => fun
  | [d1, d2, d3] => { results := [.lit (.bool true)], args := [d1, d2, d3] }
  | _ => none }
def cursorCopiesRow : OpenClaim := { program := "ytjbllcakaljpgaa", sum := "71adfe6d143aa33d43295b6d860f42417fe9fccdad4645b9aec034ee83ab0b5e", func := "evergreen/evergreenlaw18.CursorCopies", spec := "cursorCopies", unfollowed := true, recurses := true, plainKeys := false, apart := false }
def CursorCopiesSaid : Prop := cursorCopiesRow.holds Try.pinned (OpenSpec.ofChange cursorCopiesSpec)

/-- ITS FALSE NEIGHBOUR: 'it returns false'. Refute it at one input. -/
def cursorCopiesWrong : ChangeSpec := { name := "cursorCopies", fn := fun _ => fun
  | [d1, d2, d3] => { results := [.lit (.bool false)], args := [d1, d2, d3] }
  | _ => none }
def CursorCopiesWrongFalsely : Prop := cursorCopiesRow.holds Try.pinned (OpenSpec.ofChange cursorCopiesWrong)

/-- 'evergreenlaw18.CursorErrors': WHATEVER THE INPUT: true; the input reads as it did. -/
def cursorErrorsSpec : ChangeSpec := { name := "cursorErrors", fn := fun _ => fun
  | [d1, d2] => { results := [.lit (.bool true)], args := [d1, d2] }
  | _ => none }
def cursorErrorsRow : OpenClaim := { program := "ytjbllcakaljpgaa", sum := "71adfe6d143aa33d43295b6d860f42417fe9fccdad4645b9aec034ee83ab0b5e", func := "evergreen/evergreenlaw18.CursorErrors", spec := "cursorErrors", unfollowed := true, recurses := true, plainKeys := false, apart := false }
def CursorErrorsSaid : Prop := cursorErrorsRow.holds Try.pinned (OpenSpec.ofChange cursorErrorsSpec)

/-- ITS FALSE NEIGHBOUR: 'it returns false'. Refute it at one input. -/
def cursorErrorsWrong : ChangeSpec := { name := "cursorErrors", fn := fun _ => fun
  | [d1, d2] => { results := [.lit (.bool false)], args := [d1, d2] }
  | _ => none }
def CursorErrorsWrongFalsely : Prop := cursorErrorsRow.holds Try.pinned (OpenSpec.ofChange cursorErrorsWrong)

/- THE SECOND FORM. 'bulk': how many values and letters a reading holds, each counted each time it is reached (what is shared counts as often as it is met; a slice's spare places count too). A statement '..UptoSaid' is the law's where the arguments, and the package variables that the reading takes, are together of bulk at most 1048576: NARROWER than '..Said'. Prove '..Said' where nothing that the law and all that it calls make is longer than what came in: it says more and counts as full. Else prove '..UptoSaid'. A law counts once. -/
mutual
def uptoBulk {H : Type} : DataW H → Nat
  | .lit (.string bytes) => bytes.length + 1
  | .lit _ => 1
  | .nil => 1
  | .ptr d => uptoBulk d + 1
  | .slice elems spare => uptoBulkAll elems + uptoBulkAll spare + 1
  | .agg parts => uptoBulkAll parts + 1
  | .iface _ d => uptoBulk d + 1
  | .map entries => uptoBulkEntries entries + 1
  | .held _ => 1
def uptoBulkAll {H : Type} : List (DataW H) → Nat
  | [] => 0
  | d :: r => uptoBulk d + uptoBulkAll r
def uptoBulkEntries {H : Type} : List (Lit × DataW H) → Nat
  | [] => 0
  | x :: r => uptoBulkEntry x + uptoBulkEntries r
def uptoBulkEntry {H : Type} : Lit × DataW H → Nat
  | (.string bytes, d) => bytes.length + uptoBulk d + 1
  | (_, d) => uptoBulk d + 1
 end
def uptoSmall : (H : Type) → List (DataW H) → Bool := fun _ ds => decide (uptoBulkAll ds ≤ 1048576)
def OpenSpec.upto (s : _root_.Go.ChangeSpec) : _root_.Go.OpenSpec := { _root_.Go.OpenSpec.ofChange s with cond := some uptoSmall }

/-- 'evergreenlaw18.CursorSkips', WHERE WHAT IT READS IS OF BULK AT MOST 1048576: true; the input reads as it did. -/
def cursorSkipsUptoRow : OpenClaim := { program := "ytjbllcakaljpgaa", sum := "71adfe6d143aa33d43295b6d860f42417fe9fccdad4645b9aec034ee83ab0b5e", func := "evergreen/evergreenlaw18.CursorSkips", spec := "cursorSkips", plainKeys := false, apart := false, narrowed := true }
def CursorSkipsUptoSaid : Prop := cursorSkipsUptoRow.holds Try.pinned (OpenSpec.upto cursorSkipsSpec)

/-- 'evergreenlaw18.CursorBack', WHERE WHAT IT READS IS OF BULK AT MOST 1048576: true; the input reads as it did. -/
def cursorBackUptoRow : OpenClaim := { program := "ytjbllcakaljpgaa", sum := "71adfe6d143aa33d43295b6d860f42417fe9fccdad4645b9aec034ee83ab0b5e", func := "evergreen/evergreenlaw18.CursorBack", spec := "cursorBack", plainKeys := false, apart := false, narrowed := true }
def CursorBackUptoSaid : Prop := cursorBackUptoRow.holds Try.pinned (OpenSpec.upto cursorBackSpec)

/-- 'evergreenlaw18.CursorReads', WHERE WHAT IT READS IS OF BULK AT MOST 1048576: true; the input reads as it did. -/
def cursorReadsUptoRow : OpenClaim := { program := "ytjbllcakaljpgaa", sum := "71adfe6d143aa33d43295b6d860f42417fe9fccdad4645b9aec034ee83ab0b5e", func := "evergreen/evergreenlaw18.CursorReads", spec := "cursorReads", unfollowed := true, recurses := true, plainKeys := false, apart := false, narrowed := true }
def CursorReadsUptoSaid : Prop := cursorReadsUptoRow.holds Try.pinned (OpenSpec.upto cursorReadsSpec)

/-- 'evergreenlaw18.CursorLines', WHERE WHAT IT READS IS OF BULK AT MOST 1048576: true; the input reads as it did. -/
def cursorLinesUptoRow : OpenClaim := { program := "ytjbllcakaljpgaa", sum := "71adfe6d143aa33d43295b6d860f42417fe9fccdad4645b9aec034ee83ab0b5e", func := "evergreen/evergreenlaw18.CursorLines", spec := "cursorLines", unfollowed := true, recurses := true, plainKeys := false, apart := false, narrowed := true }
def CursorLinesUptoSaid : Prop := cursorLinesUptoRow.holds Try.pinned (OpenSpec.upto cursorLinesSpec)

/-- 'evergreenlaw18.CursorPlays', WHERE WHAT IT READS IS OF BULK AT MOST 1048576: true; the input reads as it did. -/
def cursorPlaysUptoRow : OpenClaim := { program := "ytjbllcakaljpgaa", sum := "71adfe6d143aa33d43295b6d860f42417fe9fccdad4645b9aec034ee83ab0b5e", func := "evergreen/evergreenlaw18.CursorPlays", spec := "cursorPlays", unfollowed := true, recurses := true, plainKeys := false, apart := false, narrowed := true }
def CursorPlaysUptoSaid : Prop := cursorPlaysUptoRow.holds Try.pinned (OpenSpec.upto cursorPlaysSpec)

/-- 'evergreenlaw18.CursorGreat', WHERE WHAT IT READS IS OF BULK AT MOST 1048576: true; the input reads as it did. -/
def cursorGreatUptoRow : OpenClaim := { program := "ytjbllcakaljpgaa", sum := "71adfe6d143aa33d43295b6d860f42417fe9fccdad4645b9aec034ee83ab0b5e", func := "evergreen/evergreenlaw18.CursorGreat", spec := "cursorGreat", unfollowed := true, recurses := true, plainKeys := false, apart := false, narrowed := true }
def CursorGreatUptoSaid : Prop := cursorGreatUptoRow.holds Try.pinned (OpenSpec.upto cursorGreatSpec)

/-- 'evergreenlaw18.CursorCopies', WHERE WHAT IT READS IS OF BULK AT MOST 1048576: true; the input reads as it did. -/
def cursorCopiesUptoRow : OpenClaim := { program := "ytjbllcakaljpgaa", sum := "71adfe6d143aa33d43295b6d860f42417fe9fccdad4645b9aec034ee83ab0b5e", func := "evergreen/evergreenlaw18.CursorCopies", spec := "cursorCopies", unfollowed := true, recurses := true, plainKeys := false, apart := false, narrowed := true }
def CursorCopiesUptoSaid : Prop := cursorCopiesUptoRow.holds Try.pinned (OpenSpec.upto cursorCopiesSpec)

/-- 'evergreenlaw18.CursorErrors', WHERE WHAT IT READS IS OF BULK AT MOST 1048576: true; the input reads as it did. -/
def cursorErrorsUptoRow : OpenClaim := { program := "ytjbllcakaljpgaa", sum := "71adfe6d143aa33d43295b6d860f42417fe9fccdad4645b9aec034ee83ab0b5e", func := "evergreen/evergreenlaw18.CursorErrors", spec := "cursorErrors", unfollowed := true, recurses := true, plainKeys := false, apart := false, narrowed := true }
def CursorErrorsUptoSaid : Prop := cursorErrorsUptoRow.holds Try.pinned (OpenSpec.upto cursorErrorsSpec)

end Rows
end Go.Proofs.Ytjbllcakaljpgaa
