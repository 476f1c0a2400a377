/-
  No cell of these rows narrows 'for every input' (looked for: loops, veiled, ifaces, maps, wideKeys, modest, calm, conditions, laid).
  DERIVED. THE GIVEN ROWS OF THIS SEAT. 6 by the template 'for every input the law returns true; each argument reads behind the call as it read before'; 0 by the template 'total and deterministic' (their statements: YtjgekbakommkmaaTotals.lean).
  GIVEN WITH THE SEED: the statements are not yours to turn. If you find one false, say at which input.
  Laid BY PROGRAM, IN A SANDBOX (cutbox-rows.mjs): the forced cells as the released guide's own fill.sh prints them over the translation 761824815182c86c… (all of the seat's roots in one cut). By AI agents, Wed Nov 11 2026. No macro, syntax, notation, axiom, sorry.
-/
import Derived.Test.YtjgekbakommkmaaChecked
import GoSem.Claim
import GoSem.ClaimJoined
import GoSem.ClaimMapViews
import Derived.JoinedTies
import Derived.KernelRfl
namespace Go.Proofs.Ytjgekbakommkmaa
/- THE CELL 'sum', in the pinned program and in every row, IS THE sha256 OF THE DUMP (.gsa) THAT YtjgekbakommkmaaProg.lean LOADS. Nothing in Lean hashes anything: it is a label: what it is worth is what the hold of that sum in a sandbox is worth. -/
noncomputable def Try.pinned : Pinned := { name := "ytjgekbakommkmaa", sum := "761824815182c86c2f8a18dc32a054f922bd577a2bfb9f1272ec752146340c6e", checked := Try.checked }
namespace Rows
def none {H : Type} : Left H := { results := [], args := [] }

/-- 'trunnionlaw08.SpansChange': WHATEVER THE INPUT: true; the input reads as it did. -/
def spansChangeSpec : ChangeSpec := { name := "spansChange", fn := fun _ => fun
  | [d1, d2, d3] => { results := [.lit (.bool true)], args := [d1, d2, d3] }
  | _ => none }
def spansChangeRow : OpenClaim := { program := "ytjgekbakommkmaa", sum := "761824815182c86c2f8a18dc32a054f922bd577a2bfb9f1272ec752146340c6e", func := "trunnion/trunnionlaw08.SpansChange", spec := "spansChange", unfollowed := true, recurses := true, apart := false }
def SpansChangeSaid : Prop := spansChangeRow.holds Try.pinned (OpenSpec.ofChange spansChangeSpec)

/-- ITS FALSE NEIGHBOUR: 'it returns false'. Refute it at one input. -/
def spansChangeWrong : ChangeSpec := { name := "spansChange", fn := fun _ => fun
  | [d1, d2, d3] => { results := [.lit (.bool false)], args := [d1, d2, d3] }
  | _ => none }
def SpansChangeWrongFalsely : Prop := spansChangeRow.holds Try.pinned (OpenSpec.ofChange spansChangeWrong)

/-- 'trunnionlaw08.SpansOrder': WHATEVER THE INPUT: true; the input reads as it did. -/
def spansOrderSpec : ChangeSpec := { name := "spansOrder", fn := fun _ => fun
  | [d1, d2, d3] => { results := [.lit (.bool true)], args := [d1, d2, d3] }
  | _ => none }
def spansOrderRow : OpenClaim := { program := "ytjgekbakommkmaa", sum := "761824815182c86c2f8a18dc32a054f922bd577a2bfb9f1272ec752146340c6e", func := "trunnion/trunnionlaw08.SpansOrder", spec := "spansOrder", unfollowed := true, recurses := true, apart := false }
def SpansOrderSaid : Prop := spansOrderRow.holds Try.pinned (OpenSpec.ofChange spansOrderSpec)

/-- ITS FALSE NEIGHBOUR: 'it returns false'. Refute it at one input. -/
def spansOrderWrong : ChangeSpec := { name := "spansOrder", fn := fun _ => fun
  | [d1, d2, d3] => { results := [.lit (.bool false)], args := [d1, d2, d3] }
  | _ => none }
def SpansOrderWrongFalsely : Prop := spansOrderRow.holds Try.pinned (OpenSpec.ofChange spansOrderWrong)

/-- 'trunnionlaw08.SpansGood': WHATEVER THE INPUT: true; the input reads as it did. -/
def spansGoodSpec : ChangeSpec := { name := "spansGood", fn := fun _ => fun
  | [d1, d2, d3] => { results := [.lit (.bool true)], args := [d1, d2, d3] }
  | _ => none }
def spansGoodRow : OpenClaim := { program := "ytjgekbakommkmaa", sum := "761824815182c86c2f8a18dc32a054f922bd577a2bfb9f1272ec752146340c6e", func := "trunnion/trunnionlaw08.SpansGood", spec := "spansGood", unfollowed := true, recurses := true, apart := false }
def SpansGoodSaid : Prop := spansGoodRow.holds Try.pinned (OpenSpec.ofChange spansGoodSpec)

/-- ITS FALSE NEIGHBOUR: 'it returns false'. Refute it at one input. -/
def spansGoodWrong : ChangeSpec := { name := "spansGood", fn := fun _ => fun
  | [d1, d2, d3] => { results := [.lit (.bool false)], args := [d1, d2, d3] }
  | _ => none }
def SpansGoodWrongFalsely : Prop := spansGoodRow.holds Try.pinned (OpenSpec.ofChange spansGoodWrong)

/-- 'trunnionlaw08.SpansPlaces': WHATEVER THE INPUT: true; the input reads as it did. -/
def spansPlacesSpec : ChangeSpec := { name := "spansPlaces", fn := fun _ => fun
  | [d1, d2, d3] => { results := [.lit (.bool true)], args := [d1, d2, d3] }
  | _ => none }
def spansPlacesRow : OpenClaim := { program := "ytjgekbakommkmaa", sum := "761824815182c86c2f8a18dc32a054f922bd577a2bfb9f1272ec752146340c6e", func := "trunnion/trunnionlaw08.SpansPlaces", spec := "spansPlaces", unfollowed := true, recurses := true, apart := false }
def SpansPlacesSaid : Prop := spansPlacesRow.holds Try.pinned (OpenSpec.ofChange spansPlacesSpec)

/-- ITS FALSE NEIGHBOUR: 'it returns false'. Refute it at one input. -/
def spansPlacesWrong : ChangeSpec := { name := "spansPlaces", fn := fun _ => fun
  | [d1, d2, d3] => { results := [.lit (.bool false)], args := [d1, d2, d3] }
  | _ => none }
def SpansPlacesWrongFalsely : Prop := spansPlacesRow.holds Try.pinned (OpenSpec.ofChange spansPlacesWrong)

/-- 'trunnionlaw08.SpansJoin': WHATEVER THE INPUT: true; the input reads as it did. -/
def spansJoinSpec : ChangeSpec := { name := "spansJoin", fn := fun _ => fun
  | [d1, d2, d3] => { results := [.lit (.bool true)], args := [d1, d2, d3] }
  | _ => none }
def spansJoinRow : OpenClaim := { program := "ytjgekbakommkmaa", sum := "761824815182c86c2f8a18dc32a054f922bd577a2bfb9f1272ec752146340c6e", func := "trunnion/trunnionlaw08.SpansJoin", spec := "spansJoin", unfollowed := true, recurses := true, apart := false }
def SpansJoinSaid : Prop := spansJoinRow.holds Try.pinned (OpenSpec.ofChange spansJoinSpec)

/-- ITS FALSE NEIGHBOUR: 'it returns false'. Refute it at one input. -/
def spansJoinWrong : ChangeSpec := { name := "spansJoin", fn := fun _ => fun
  | [d1, d2, d3] => { results := [.lit (.bool false)], args := [d1, d2, d3] }
  | _ => none }
def SpansJoinWrongFalsely : Prop := spansJoinRow.holds Try.pinned (OpenSpec.ofChange spansJoinWrong)

/-- 'trunnionlaw08.SpansSplit': WHATEVER THE INPUT: true; the input reads as it did. -/
def spansSplitSpec : ChangeSpec := { name := "spansSplit", fn := fun _ => fun
  | [d1, d2] => { results := [.lit (.bool true)], args := [d1, d2] }
  | _ => none }
def spansSplitRow : OpenClaim := { program := "ytjgekbakommkmaa", sum := "761824815182c86c2f8a18dc32a054f922bd577a2bfb9f1272ec752146340c6e", func := "trunnion/trunnionlaw08.SpansSplit", spec := "spansSplit", unfollowed := true, recurses := true, apart := false }
def SpansSplitSaid : Prop := spansSplitRow.holds Try.pinned (OpenSpec.ofChange spansSplitSpec)

/-- ITS FALSE NEIGHBOUR: 'it returns false'. Refute it at one input. -/
def spansSplitWrong : ChangeSpec := { name := "spansSplit", fn := fun _ => fun
  | [d1, d2] => { results := [.lit (.bool false)], args := [d1, d2] }
  | _ => none }
def SpansSplitWrongFalsely : Prop := spansSplitRow.holds Try.pinned (OpenSpec.ofChange spansSplitWrong)

/- THE SECOND FORM. 'bulk': how many values and letters a reading holds, each counted each time it is reached (what is shared counts as often as it is met; a slice's spare places count too). A statement '..UptoSaid' is the law's where the arguments, and the package variables that the reading takes, are together of bulk at most 1048576: NARROWER than '..Said'. Prove '..Said' where nothing that the law and all that it calls make is longer than what came in: it says more and counts as full. Else prove '..UptoSaid'. A law counts once. -/
mutual
def uptoBulk {H : Type} : DataW H → Nat
  | .lit (.string bytes) => bytes.length + 1
  | .lit _ => 1
  | .nil => 1
  | .ptr d => uptoBulk d + 1
  | .slice elems spare => uptoBulkAll elems + uptoBulkAll spare + 1
  | .agg parts => uptoBulkAll parts + 1
  | .iface _ d => uptoBulk d + 1
  | .map entries => uptoBulkEntries entries + 1
  | .held _ => 1
def uptoBulkAll {H : Type} : List (DataW H) → Nat
  | [] => 0
  | d :: r => uptoBulk d + uptoBulkAll r
def uptoBulkEntries {H : Type} : List (Lit × DataW H) → Nat
  | [] => 0
  | x :: r => uptoBulkEntry x + uptoBulkEntries r
def uptoBulkEntry {H : Type} : Lit × DataW H → Nat
  | (.string bytes, d) => bytes.length + uptoBulk d + 1
  | (_, d) => uptoBulk d + 1
 end
def uptoSmall : (H : Type) → List (DataW H) → Bool := fun _ ds => decide (uptoBulkAll ds ≤ 1048576)
def OpenSpec.upto (s : _root_.Go.ChangeSpec) : _root_.Go.OpenSpec := { _root_.Go.OpenSpec.ofChange s with cond := some uptoSmall }

/-- 'trunnionlaw08.SpansChange', WHERE WHAT IT READS IS OF BULK AT MOST 1048576: true; the input reads as it did. -/
def spansChangeUptoRow : OpenClaim := { program := "ytjgekbakommkmaa", sum := "761824815182c86c2f8a18dc32a054f922bd577a2bfb9f1272ec752146340c6e", func := "trunnion/trunnionlaw08.SpansChange", spec := "spansChange", unfollowed := true, recurses := true, apart := false, narrowed := true }
def SpansChangeUptoSaid : Prop := spansChangeUptoRow.holds Try.pinned (OpenSpec.upto spansChangeSpec)

/-- 'trunnionlaw08.SpansOrder', WHERE WHAT IT READS IS OF BULK AT MOST 1048576: true; the input reads as it did. -/
def spansOrderUptoRow : OpenClaim := { program := "ytjgekbakommkmaa", sum := "761824815182c86c2f8a18dc32a054f922bd577a2bfb9f1272ec752146340c6e", func := "trunnion/trunnionlaw08.SpansOrder", spec := "spansOrder", unfollowed := true, recurses := true, apart := false, narrowed := true }
def SpansOrderUptoSaid : Prop := spansOrderUptoRow.holds Try.pinned (OpenSpec.upto spansOrderSpec)

/-- 'trunnionlaw08.SpansGood', WHERE WHAT IT READS IS OF BULK AT MOST 1048576: true; the input reads as it did. -/
def spansGoodUptoRow : OpenClaim := { program := "ytjgekbakommkmaa", sum := "761824815182c86c2f8a18dc32a054f922bd577a2bfb9f1272ec752146340c6e", func := "trunnion/trunnionlaw08.SpansGood", spec := "spansGood", unfollowed := true, recurses := true, apart := false, narrowed := true }
def SpansGoodUptoSaid : Prop := spansGoodUptoRow.holds Try.pinned (OpenSpec.upto spansGoodSpec)

/-- 'trunnionlaw08.SpansPlaces', WHERE WHAT IT READS IS OF BULK AT MOST 1048576: true; the input reads as it did. -/
def spansPlacesUptoRow : OpenClaim := { program := "ytjgekbakommkmaa", sum := "761824815182c86c2f8a18dc32a054f922bd577a2bfb9f1272ec752146340c6e", func := "trunnion/trunnionlaw08.SpansPlaces", spec := "spansPlaces", unfollowed := true, recurses := true, apart := false, narrowed := true }
def SpansPlacesUptoSaid : Prop := spansPlacesUptoRow.holds Try.pinned (OpenSpec.upto spansPlacesSpec)

/-- 'trunnionlaw08.SpansJoin', WHERE WHAT IT READS IS OF BULK AT MOST 1048576: true; the input reads as it did. -/
def spansJoinUptoRow : OpenClaim := { program := "ytjgekbakommkmaa", sum := "761824815182c86c2f8a18dc32a054f922bd577a2bfb9f1272ec752146340c6e", func := "trunnion/trunnionlaw08.SpansJoin", spec := "spansJoin", unfollowed := true, recurses := true, apart := false, narrowed := true }
def SpansJoinUptoSaid : Prop := spansJoinUptoRow.holds Try.pinned (OpenSpec.upto spansJoinSpec)

/-- 'trunnionlaw08.SpansSplit', WHERE WHAT IT READS IS OF BULK AT MOST 1048576: true; the input reads as it did. -/
def spansSplitUptoRow : OpenClaim := { program := "ytjgekbakommkmaa", sum := "761824815182c86c2f8a18dc32a054f922bd577a2bfb9f1272ec752146340c6e", func := "trunnion/trunnionlaw08.SpansSplit", spec := "spansSplit", unfollowed := true, recurses := true, apart := false, narrowed := true }
def SpansSplitUptoSaid : Prop := spansSplitUptoRow.holds Try.pinned (OpenSpec.upto spansSplitSpec)

end Rows
end Go.Proofs.Ytjgekbakommkmaa
