/-
  No cell of these rows narrows 'for every input' (looked for: loops, veiled, ifaces, maps, wideKeys, modest, calm, conditions, laid).
  DERIVED. THE GIVEN ROWS OF THIS SEAT. 11 by the template 'for every input the law returns true; each argument reads behind the call as it read before'; 0 by the template 'total and deterministic' (their statements: YtplccefjljdjnaaTotals.lean).
  GIVEN WITH THE SEED: the statements are not yours to turn. If you find one false, say at which input.
  Laid BY PROGRAM, IN A SANDBOX (cutbox-rows.mjs): the forced cells as the released guide's own fill.sh prints them over the translation 4f890516628ddd8f… (all of the seat's roots in one cut). By AI agents, Wed Nov 11 2026. No macro, syntax, notation, axiom, sorry.
-/
import Derived.Test.YtplccefjljdjnaaChecked
import GoSem.Claim
import GoSem.ClaimJoined
import GoSem.ClaimMapViews
import Derived.JoinedTies
import Derived.KernelRfl
namespace Go.Proofs.Ytplccefjljdjnaa
/- THE CELL 'sum', in the pinned program and in every row, IS THE sha256 OF THE DUMP (.gsa) THAT YtplccefjljdjnaaProg.lean LOADS. Nothing in Lean hashes anything: it is a label: what it is worth is what the hold of that sum in a sandbox is worth. -/
noncomputable def Try.pinned : Pinned := { name := "ytplccefjljdjnaa", sum := "4f890516628ddd8f3531d7e9f99e21fcec6ce02e41bcc58561d8c7046f8a7099", checked := Try.checked }
namespace Rows
def none {H : Type} : Left H := { results := [], args := [] }

/-- 'evergreenlaw38.AnchorMaps': WHATEVER THE INPUT: true; the input reads as it did. -/
def anchorMapsSpec : ChangeSpec := { name := "anchorMaps", fn := fun _ => fun
  | [d] => { results := [.lit (.bool true)], args := [d] }
  | _ => none }
def anchorMapsRow : OpenClaim := { program := "ytplccefjljdjnaa", sum := "4f890516628ddd8f3531d7e9f99e21fcec6ce02e41bcc58561d8c7046f8a7099", func := "evergreen/evergreenlaw38.AnchorMaps", spec := "anchorMaps", unfollowed := true, recurses := true, plainKeys := false, apart := false }
def AnchorMapsSaid : Prop := anchorMapsRow.holds Try.pinned (OpenSpec.ofChange anchorMapsSpec)

/-- ITS FALSE NEIGHBOUR: 'it returns false'. Refute it at one input. -/
def anchorMapsWrong : ChangeSpec := { name := "anchorMaps", fn := fun _ => fun
  | [d] => { results := [.lit (.bool false)], args := [d] }
  | _ => none }
def AnchorMapsWrongFalsely : Prop := anchorMapsRow.holds Try.pinned (OpenSpec.ofChange anchorMapsWrong)

/-- 'evergreenlaw38.AnchorOrder': WHATEVER THE INPUT: true; the input reads as it did. -/
def anchorOrderSpec : ChangeSpec := { name := "anchorOrder", fn := fun _ => fun
  | [d] => { results := [.lit (.bool true)], args := [d] }
  | _ => none }
def anchorOrderRow : OpenClaim := { program := "ytplccefjljdjnaa", sum := "4f890516628ddd8f3531d7e9f99e21fcec6ce02e41bcc58561d8c7046f8a7099", func := "evergreen/evergreenlaw38.AnchorOrder", spec := "anchorOrder", unfollowed := true, recurses := true, plainKeys := false, apart := false }
def AnchorOrderSaid : Prop := anchorOrderRow.holds Try.pinned (OpenSpec.ofChange anchorOrderSpec)

/-- ITS FALSE NEIGHBOUR: 'it returns false'. Refute it at one input. -/
def anchorOrderWrong : ChangeSpec := { name := "anchorOrder", fn := fun _ => fun
  | [d] => { results := [.lit (.bool false)], args := [d] }
  | _ => none }
def AnchorOrderWrongFalsely : Prop := anchorOrderRow.holds Try.pinned (OpenSpec.ofChange anchorOrderWrong)

/-- 'evergreenlaw38.AnchorLists': WHATEVER THE INPUT: true; the input reads as it did. -/
def anchorListsSpec : ChangeSpec := { name := "anchorLists", fn := fun _ => fun
  | [d1, d2] => { results := [.lit (.bool true)], args := [d1, d2] }
  | _ => none }
def anchorListsRow : OpenClaim := { program := "ytplccefjljdjnaa", sum := "4f890516628ddd8f3531d7e9f99e21fcec6ce02e41bcc58561d8c7046f8a7099", func := "evergreen/evergreenlaw38.AnchorLists", spec := "anchorLists", unfollowed := true, recurses := true, plainKeys := false, apart := false }
def AnchorListsSaid : Prop := anchorListsRow.holds Try.pinned (OpenSpec.ofChange anchorListsSpec)

/-- ITS FALSE NEIGHBOUR: 'it returns false'. Refute it at one input. -/
def anchorListsWrong : ChangeSpec := { name := "anchorLists", fn := fun _ => fun
  | [d1, d2] => { results := [.lit (.bool false)], args := [d1, d2] }
  | _ => none }
def AnchorListsWrongFalsely : Prop := anchorListsRow.holds Try.pinned (OpenSpec.ofChange anchorListsWrong)

/-- 'evergreenlaw38.AnchorSpans': WHATEVER THE INPUT: true; the input reads as it did. -/
def anchorSpansSpec : ChangeSpec := { name := "anchorSpans", fn := fun _ => fun
  | [d] => { results := [.lit (.bool true)], args := [d] }
  | _ => none }
def anchorSpansRow : OpenClaim := { program := "ytplccefjljdjnaa", sum := "4f890516628ddd8f3531d7e9f99e21fcec6ce02e41bcc58561d8c7046f8a7099", func := "evergreen/evergreenlaw38.AnchorSpans", spec := "anchorSpans", unfollowed := true, recurses := true, plainKeys := false, apart := false }
def AnchorSpansSaid : Prop := anchorSpansRow.holds Try.pinned (OpenSpec.ofChange anchorSpansSpec)

/-- ITS FALSE NEIGHBOUR: 'it returns false'. Refute it at one input. -/
def anchorSpansWrong : ChangeSpec := { name := "anchorSpans", fn := fun _ => fun
  | [d] => { results := [.lit (.bool false)], args := [d] }
  | _ => none }
def AnchorSpansWrongFalsely : Prop := anchorSpansRow.holds Try.pinned (OpenSpec.ofChange anchorSpansWrong)

/-- 'evergreenlaw38.AnchorBacks': WHATEVER THE INPUT: true; the input reads as it did. -/
def anchorBacksSpec : ChangeSpec := { name := "anchorBacks", fn := fun _ => fun
  | [d] => { results := [.lit (.bool true)], args := [d] }
  | _ => none }
def anchorBacksRow : OpenClaim := { program := "ytplccefjljdjnaa", sum := "4f890516628ddd8f3531d7e9f99e21fcec6ce02e41bcc58561d8c7046f8a7099", func := "evergreen/evergreenlaw38.AnchorBacks", spec := "anchorBacks", unfollowed := true, recurses := true, plainKeys := false, apart := false }
def AnchorBacksSaid : Prop := anchorBacksRow.holds Try.pinned (OpenSpec.ofChange anchorBacksSpec)

/-- ITS FALSE NEIGHBOUR: 'it returns false'. Refute it at one input. -/
def anchorBacksWrong : ChangeSpec := { name := "anchorBacks", fn := fun _ => fun
  | [d] => { results := [.lit (.bool false)], args := [d] }
  | _ => none }
def AnchorBacksWrongFalsely : Prop := anchorBacksRow.holds Try.pinned (OpenSpec.ofChange anchorBacksWrong)

/-- 'evergreenlaw38.AnchorReturns': WHATEVER THE INPUT: true; the input reads as it did. -/
def anchorReturnsSpec : ChangeSpec := { name := "anchorReturns", fn := fun _ => fun
  | [d] => { results := [.lit (.bool true)], args := [d] }
  | _ => none }
def anchorReturnsRow : OpenClaim := { program := "ytplccefjljdjnaa", sum := "4f890516628ddd8f3531d7e9f99e21fcec6ce02e41bcc58561d8c7046f8a7099", func := "evergreen/evergreenlaw38.AnchorReturns", spec := "anchorReturns", unfollowed := true, recurses := true, plainKeys := false, apart := false }
def AnchorReturnsSaid : Prop := anchorReturnsRow.holds Try.pinned (OpenSpec.ofChange anchorReturnsSpec)

/-- ITS FALSE NEIGHBOUR: 'it returns false'. Refute it at one input. -/
def anchorReturnsWrong : ChangeSpec := { name := "anchorReturns", fn := fun _ => fun
  | [d] => { results := [.lit (.bool false)], args := [d] }
  | _ => none }
def AnchorReturnsWrongFalsely : Prop := anchorReturnsRow.holds Try.pinned (OpenSpec.ofChange anchorReturnsWrong)

/-- 'evergreenlaw38.AnchorInserted': WHATEVER THE INPUT: true; the input reads as it did. -/
def anchorInsertedSpec : ChangeSpec := { name := "anchorInserted", fn := fun _ => fun
  | [d] => { results := [.lit (.bool true)], args := [d] }
  | _ => none }
def anchorInsertedRow : OpenClaim := { program := "ytplccefjljdjnaa", sum := "4f890516628ddd8f3531d7e9f99e21fcec6ce02e41bcc58561d8c7046f8a7099", func := "evergreen/evergreenlaw38.AnchorInserted", spec := "anchorInserted", unfollowed := true, recurses := true, plainKeys := false, apart := false }
def AnchorInsertedSaid : Prop := anchorInsertedRow.holds Try.pinned (OpenSpec.ofChange anchorInsertedSpec)

/-- ITS FALSE NEIGHBOUR: 'it returns false'. Refute it at one input. -/
def anchorInsertedWrong : ChangeSpec := { name := "anchorInserted", fn := fun _ => fun
  | [d] => { results := [.lit (.bool false)], args := [d] }
  | _ => none }
def AnchorInsertedWrongFalsely : Prop := anchorInsertedRow.holds Try.pinned (OpenSpec.ofChange anchorInsertedWrong)

/-- 'evergreenlaw38.AnchorErrors': WHATEVER THE INPUT: true; the input reads as it did. -/
def anchorErrorsSpec : ChangeSpec := { name := "anchorErrors", fn := fun _ => fun
  | [d1, d2] => { results := [.lit (.bool true)], args := [d1, d2] }
  | _ => none }
def anchorErrorsRow : OpenClaim := { program := "ytplccefjljdjnaa", sum := "4f890516628ddd8f3531d7e9f99e21fcec6ce02e41bcc58561d8c7046f8a7099", func := "evergreen/evergreenlaw38.AnchorErrors", spec := "anchorErrors", unfollowed := true, recurses := true, plainKeys := false, apart := false }
def AnchorErrorsSaid : Prop := anchorErrorsRow.holds Try.pinned (OpenSpec.ofChange anchorErrorsSpec)

/-- ITS FALSE NEIGHBOUR: 'it returns false'. Refute it at one input. -/
def anchorErrorsWrong : ChangeSpec := { name := "anchorErrors", fn := fun _ => fun
  | [d1, d2] => { results := [.lit (.bool false)], args := [d1, d2] }
  | _ => none }
def AnchorErrorsWrongFalsely : Prop := anchorErrorsRow.holds Try.pinned (OpenSpec.ofChange anchorErrorsWrong)

/-- 'evergreenlaw38.AnchorInverts': WHATEVER THE INPUT: true; the input reads as it did. -/
def anchorInvertsSpec : ChangeSpec := { name := "anchorInverts", fn := fun _ => fun
  | [d1, d2, d3] => { results := [.lit (.bool true)], args := [d1, d2, d3] }
  | _ => none }
def anchorInvertsRow : OpenClaim := { program := "ytplccefjljdjnaa", sum := "4f890516628ddd8f3531d7e9f99e21fcec6ce02e41bcc58561d8c7046f8a7099", func := "evergreen/evergreenlaw38.AnchorInverts", spec := "anchorInverts", unfollowed := true, recurses := true, plainKeys := false, apart := false }
def AnchorInvertsSaid : Prop := anchorInvertsRow.holds Try.pinned (OpenSpec.ofChange anchorInvertsSpec)

/-- ITS FALSE NEIGHBOUR: 'it returns false'. Refute it at one input. -/
def anchorInvertsWrong : ChangeSpec := { name := "anchorInverts", fn := fun _ => fun
  | [d1, d2, d3] => { results := [.lit (.bool false)], args := [d1, d2, d3] }
  | _ => none }
def AnchorInvertsWrongFalsely : Prop := anchorInvertsRow.holds Try.pinned (OpenSpec.ofChange anchorInvertsWrong)

/-- 'evergreenlaw38.AnchorLetters': WHATEVER THE INPUT: true; the input reads as it did. -/
def anchorLettersSpec : ChangeSpec := { name := "anchorLetters", fn := fun _ => fun
  | [d1, d2, d3] => { results := [.lit (.bool true)], args := [d1, d2, d3] }
  | _ => none }
def anchorLettersRow : OpenClaim := { program := "ytplccefjljdjnaa", sum := "4f890516628ddd8f3531d7e9f99e21fcec6ce02e41bcc58561d8c7046f8a7099", func := "evergreen/evergreenlaw38.AnchorLetters", spec := "anchorLetters", unfollowed := true, recurses := true, plainKeys := false, apart := false }
def AnchorLettersSaid : Prop := anchorLettersRow.holds Try.pinned (OpenSpec.ofChange anchorLettersSpec)

/-- ITS FALSE NEIGHBOUR: 'it returns false'. Refute it at one input. -/
def anchorLettersWrong : ChangeSpec := { name := "anchorLetters", fn := fun _ => fun
  | [d1, d2, d3] => { results := [.lit (.bool false)], args := [d1, d2, d3] }
  | _ => none }
def AnchorLettersWrongFalsely : Prop := anchorLettersRow.holds Try.pinned (OpenSpec.ofChange anchorLettersWrong)

/-- 'evergreenlaw38.AnchorComposes': WHATEVER THE INPUT: true; the input reads as it did. -/
def anchorComposesSpec : ChangeSpec := { name := "anchorComposes", fn := fun _ => fun
  | [d1, d2] => { results := [.lit (.bool true)], args := [d1, d2] }
  | _ => none }
def anchorComposesRow : OpenClaim := { program := "ytplccefjljdjnaa", sum := "4f890516628ddd8f3531d7e9f99e21fcec6ce02e41bcc58561d8c7046f8a7099", func := "evergreen/evergreenlaw38.AnchorComposes", spec := "anchorComposes", unfollowed := true, recurses := true, plainKeys := false, apart := false }
def AnchorComposesSaid : Prop := anchorComposesRow.holds Try.pinned (OpenSpec.ofChange anchorComposesSpec)

/-- ITS FALSE NEIGHBOUR: 'it returns false'. Refute it at one input. -/
def anchorComposesWrong : ChangeSpec := { name := "anchorComposes", fn := fun _ => fun
  | [d1, d2] => { results := [.lit (.bool false)], args := [d1, d2] }
  | _ => none }
def AnchorComposesWrongFalsely : Prop := anchorComposesRow.holds Try.pinned (OpenSpec.ofChange anchorComposesWrong)

/- THE SECOND FORM. 'bulk': how many values and letters a reading holds, each counted each time it is reached (what is shared counts as often as it is met; a slice's spare places count too). A statement '..UptoSaid' is the law's where the arguments, and the package variables that the reading takes, are together of bulk at most 1048576: NARROWER than '..Said'. Prove '..Said' where nothing that the law and all that it calls make is longer than what came in: it says more and counts as full. Else prove '..UptoSaid'. A law counts once. -/
mutual
def uptoBulk {H : Type} : DataW H → Nat
  | .lit (.string bytes) => bytes.length + 1
  | .lit _ => 1
  | .nil => 1
  | .ptr d => uptoBulk d + 1
  | .slice elems spare => uptoBulkAll elems + uptoBulkAll spare + 1
  | .agg parts => uptoBulkAll parts + 1
  | .iface _ d => uptoBulk d + 1
  | .map entries => uptoBulkEntries entries + 1
  | .held _ => 1
def uptoBulkAll {H : Type} : List (DataW H) → Nat
  | [] => 0
  | d :: r => uptoBulk d + uptoBulkAll r
def uptoBulkEntries {H : Type} : List (Lit × DataW H) → Nat
  | [] => 0
  | x :: r => uptoBulkEntry x + uptoBulkEntries r
def uptoBulkEntry {H : Type} : Lit × DataW H → Nat
  | (.string bytes, d) => bytes.length + uptoBulk d + 1
  | (_, d) => uptoBulk d + 1
 end
def uptoSmall : (H : Type) → List (DataW H) → Bool := fun _ ds => decide (uptoBulkAll ds ≤ 1048576)
def OpenSpec.upto (s : _root_.Go.ChangeSpec) : _root_.Go.OpenSpec := { _root_.Go.OpenSpec.ofChange s with cond := some uptoSmall }

/-- 'evergreenlaw38.AnchorMaps', WHERE WHAT IT READS IS OF BULK AT MOST 1048576: true; the input reads as it did. -/
def anchorMapsUptoRow : OpenClaim := { program := "ytplccefjljdjnaa", sum := "4f890516628ddd8f3531d7e9f99e21fcec6ce02e41bcc58561d8c7046f8a7099", func := "evergreen/evergreenlaw38.AnchorMaps", spec := "anchorMaps", unfollowed := true, recurses := true, plainKeys := false, apart := false, narrowed := true }
def AnchorMapsUptoSaid : Prop := anchorMapsUptoRow.holds Try.pinned (OpenSpec.upto anchorMapsSpec)

/-- 'evergreenlaw38.AnchorOrder', WHERE WHAT IT READS IS OF BULK AT MOST 1048576: true; the input reads as it did. -/
def anchorOrderUptoRow : OpenClaim := { program := "ytplccefjljdjnaa", sum := "4f890516628ddd8f3531d7e9f99e21fcec6ce02e41bcc58561d8c7046f8a7099", func := "evergreen/evergreenlaw38.AnchorOrder", spec := "anchorOrder", unfollowed := true, recurses := true, plainKeys := false, apart := false, narrowed := true }
def AnchorOrderUptoSaid : Prop := anchorOrderUptoRow.holds Try.pinned (OpenSpec.upto anchorOrderSpec)

/-- 'evergreenlaw38.AnchorLists', WHERE WHAT IT READS IS OF BULK AT MOST 1048576: true; the input reads as it did. -/
def anchorListsUptoRow : OpenClaim := { program := "ytplccefjljdjnaa", sum := "4f890516628ddd8f3531d7e9f99e21fcec6ce02e41bcc58561d8c7046f8a7099", func := "evergreen/evergreenlaw38.AnchorLists", spec := "anchorLists", unfollowed := true, recurses := true, plainKeys := false, apart := false, narrowed := true }
def AnchorListsUptoSaid : Prop := anchorListsUptoRow.holds Try.pinned (OpenSpec.upto anchorListsSpec)

/-- 'evergreenlaw38.AnchorSpans', WHERE WHAT IT READS IS OF BULK AT MOST 1048576: true; the input reads as it did. -/
def anchorSpansUptoRow : OpenClaim := { program := "ytplccefjljdjnaa", sum := "4f890516628ddd8f3531d7e9f99e21fcec6ce02e41bcc58561d8c7046f8a7099", func := "evergreen/evergreenlaw38.AnchorSpans", spec := "anchorSpans", unfollowed := true, recurses := true, plainKeys := false, apart := false, narrowed := true }
def AnchorSpansUptoSaid : Prop := anchorSpansUptoRow.holds Try.pinned (OpenSpec.upto anchorSpansSpec)

/-- 'evergreenlaw38.AnchorBacks', WHERE WHAT IT READS IS OF BULK AT MOST 1048576: true; the input reads as it did. -/
def anchorBacksUptoRow : OpenClaim := { program := "ytplccefjljdjnaa", sum := "4f890516628ddd8f3531d7e9f99e21fcec6ce02e41bcc58561d8c7046f8a7099", func := "evergreen/evergreenlaw38.AnchorBacks", spec := "anchorBacks", unfollowed := true, recurses := true, plainKeys := false, apart := false, narrowed := true }
def AnchorBacksUptoSaid : Prop := anchorBacksUptoRow.holds Try.pinned (OpenSpec.upto anchorBacksSpec)

/-- 'evergreenlaw38.AnchorReturns', WHERE WHAT IT READS IS OF BULK AT MOST 1048576: true; the input reads as it did. -/
def anchorReturnsUptoRow : OpenClaim := { program := "ytplccefjljdjnaa", sum := "4f890516628ddd8f3531d7e9f99e21fcec6ce02e41bcc58561d8c7046f8a7099", func := "evergreen/evergreenlaw38.AnchorReturns", spec := "anchorReturns", unfollowed := true, recurses := true, plainKeys := false, apart := false, narrowed := true }
def AnchorReturnsUptoSaid : Prop := anchorReturnsUptoRow.holds Try.pinned (OpenSpec.upto anchorReturnsSpec)

/-- 'evergreenlaw38.AnchorInserted', WHERE WHAT IT READS IS OF BULK AT MOST 1048576: true; the input reads as it did. -/
def anchorInsertedUptoRow : OpenClaim := { program := "ytplccefjljdjnaa", sum := "4f890516628ddd8f3531d7e9f99e21fcec6ce02e41bcc58561d8c7046f8a7099", func := "evergreen/evergreenlaw38.AnchorInserted", spec := "anchorInserted", unfollowed := true, recurses := true, plainKeys := false, apart := false, narrowed := true }
def AnchorInsertedUptoSaid : Prop := anchorInsertedUptoRow.holds Try.pinned (OpenSpec.upto anchorInsertedSpec)

/-- 'evergreenlaw38.AnchorErrors', WHERE WHAT IT READS IS OF BULK AT MOST 1048576: true; the input reads as it did. -/
def anchorErrorsUptoRow : OpenClaim := { program := "ytplccefjljdjnaa", sum := "4f890516628ddd8f3531d7e9f99e21fcec6ce02e41bcc58561d8c7046f8a7099", func := "evergreen/evergreenlaw38.AnchorErrors", spec := "anchorErrors", unfollowed := true, recurses := true, plainKeys := false, apart := false, narrowed := true }
def AnchorErrorsUptoSaid : Prop := anchorErrorsUptoRow.holds Try.pinned (OpenSpec.upto anchorErrorsSpec)

/-- 'evergreenlaw38.AnchorInverts', WHERE WHAT IT READS IS OF BULK AT MOST 1048576: true; the input reads as it did. -/
def anchorInvertsUptoRow : OpenClaim := { program := "ytplccefjljdjnaa", sum := "4f890516628ddd8f3531d7e9f99e21fcec6ce02e41bcc58561d8c7046f8a7099", func := "evergreen/evergreenlaw38.AnchorInverts", spec := "anchorInverts", unfollowed := true, recurses := true, plainKeys := false, apart := false, narrowed := true }
def AnchorInvertsUptoSaid : Prop := anchorInvertsUptoRow.holds Try.pinned (OpenSpec.upto anchorInvertsSpec)

/-- 'evergreenlaw38.AnchorLetters', WHERE WHAT IT READS IS OF BULK AT MOST 1048576: true; the input reads as it did. -/
def anchorLettersUptoRow : OpenClaim := { program := "ytplccefjljdjnaa", sum := "4f890516628ddd8f3531d7e9f99e21fcec6ce02e41bcc58561d8c7046f8a7099", func := "evergreen/evergreenlaw38.AnchorLetters", spec := "anchorLetters", unfollowed := true, recurses := true, plainKeys := false, apart := false, narrowed := true }
def AnchorLettersUptoSaid : Prop := anchorLettersUptoRow.holds Try.pinned (OpenSpec.upto anchorLettersSpec)

/-- 'evergreenlaw38.AnchorComposes', WHERE WHAT IT READS IS OF BULK AT MOST 1048576: true; the input reads as it did. -/
def anchorComposesUptoRow : OpenClaim := { program := "ytplccefjljdjnaa", sum := "4f890516628ddd8f3531d7e9f99e21fcec6ce02e41bcc58561d8c7046f8a7099", func := "evergreen/evergreenlaw38.AnchorComposes", spec := "anchorComposes", unfollowed := true, recurses := true, plainKeys := false, apart := false, narrowed := true }
def AnchorComposesUptoSaid : Prop := anchorComposesUptoRow.holds Try.pinned (OpenSpec.upto anchorComposesSpec)

end Rows
end Go.Proofs.Ytplccefjljdjnaa
