/-
  No cell of these rows narrows 'for every input' (looked for: loops, veiled, ifaces, maps, wideKeys, modest, calm, conditions, laid).
  DERIVED. THE GIVEN ROWS OF THIS SEAT. 6 by the template 'for every input the law returns true; each argument reads behind the call as it read before'; 0 by the template 'total and deterministic' (their statements: YtfahogbgkjockaaTotals.lean).
  GIVEN WITH THE SEED: the statements are not yours to turn. If you find one false, say at which input.
  Laid BY PROGRAM, IN A SANDBOX (cutbox-rows.mjs): the forced cells as the released guide's own fill.sh prints them over the translation 2f7286a37b0c8527… (all of the seat's roots in one cut). By AI agents, Wed Nov 11 2026. No macro, syntax, notation, axiom, sorry.
-/
import Derived.Test.YtfahogbgkjockaaChecked
import GoSem.Claim
import GoSem.ClaimJoined
import GoSem.ClaimMapViews
import Derived.JoinedTies
import Derived.KernelRfl
namespace Go.Proofs.Ytfahogbgkjockaa
/- THE CELL 'sum', in the pinned program and in every row, IS THE sha256 OF THE DUMP (.gsa) THAT YtfahogbgkjockaaProg.lean LOADS. Nothing in Lean hashes anything: it is a label: what it is worth is what the hold of that sum in a sandbox is worth. -/
noncomputable def Try.pinned : Pinned := { name := "ytfahogbgkjockaa", sum := "2f7286a37b0c8527858e4e6ea78f629550e05f06d327a64ca281ae2de85bc3d3", checked := Try.checked }
namespace Rows
def none {H : Type} : Left H := { results := [], args := [] }

/-- 'trunnionlaw01.LanesLoads': WHATEVER THE INPUT: true; the input reads as it did. -/
def lanesLoadsSpec : ChangeSpec := { name := "lanesLoads", fn := fun _ => fun
  | [d1, d2] => { results := [.lit (.bool true)], args := [d1, d2] }
  | _ => none }
def lanesLoadsRow : OpenClaim := { program := "ytfahogbgkjockaa", sum := "2f7286a37b0c8527858e4e6ea78f629550e05f06d327a64ca281ae2de85bc3d3", func := "trunnion/trunnionlaw01.LanesLoads", spec := "lanesLoads", apart := false }
def LanesLoadsSaid : Prop := lanesLoadsRow.holds Try.pinned (OpenSpec.ofChange lanesLoadsSpec)

/-- ITS FALSE NEIGHBOUR: 'it returns false'. Refute it at one input. -/
def lanesLoadsWrong : ChangeSpec := { name := "lanesLoads", fn := fun _ => fun
  | [d1, d2] => { results := [.lit (.bool false)], args := [d1, d2] }
  | _ => none }
def LanesLoadsWrongFalsely : Prop := lanesLoadsRow.holds Try.pinned (OpenSpec.ofChange lanesLoadsWrong)

/-- 'trunnionlaw01.LanesBack': WHATEVER THE INPUT: true; the input reads as it did. -/
def lanesBackSpec : ChangeSpec := { name := "lanesBack", fn := fun _ => fun
  | [d1, d2] => { results := [.lit (.bool true)], args := [d1, d2] }
  | _ => none }
def lanesBackRow : OpenClaim := { program := "ytfahogbgkjockaa", sum := "2f7286a37b0c8527858e4e6ea78f629550e05f06d327a64ca281ae2de85bc3d3", func := "trunnion/trunnionlaw01.LanesBack", spec := "lanesBack", apart := false }
def LanesBackSaid : Prop := lanesBackRow.holds Try.pinned (OpenSpec.ofChange lanesBackSpec)

/-- ITS FALSE NEIGHBOUR: 'it returns false'. Refute it at one input. -/
def lanesBackWrong : ChangeSpec := { name := "lanesBack", fn := fun _ => fun
  | [d1, d2] => { results := [.lit (.bool false)], args := [d1, d2] }
  | _ => none }
def LanesBackWrongFalsely : Prop := lanesBackRow.holds Try.pinned (OpenSpec.ofChange lanesBackWrong)

/-- 'trunnionlaw01.LanesStores': WHATEVER THE INPUT: true; the input reads as it did. -/
def lanesStoresSpec : ChangeSpec := { name := "lanesStores", fn := fun _ => fun
  | [d1, d2] => { results := [.lit (.bool true)], args := [d1, d2] }
  | _ => none }
def lanesStoresRow : OpenClaim := { program := "ytfahogbgkjockaa", sum := "2f7286a37b0c8527858e4e6ea78f629550e05f06d327a64ca281ae2de85bc3d3", func := "trunnion/trunnionlaw01.LanesStores", spec := "lanesStores", apart := false }
def LanesStoresSaid : Prop := lanesStoresRow.holds Try.pinned (OpenSpec.ofChange lanesStoresSpec)

/-- ITS FALSE NEIGHBOUR: 'it returns false'. Refute it at one input. -/
def lanesStoresWrong : ChangeSpec := { name := "lanesStores", fn := fun _ => fun
  | [d1, d2] => { results := [.lit (.bool false)], args := [d1, d2] }
  | _ => none }
def LanesStoresWrongFalsely : Prop := lanesStoresRow.holds Try.pinned (OpenSpec.ofChange lanesStoresWrong)

/-- 'trunnionlaw01.LanesLines': WHATEVER THE INPUT: true; the input reads as it did. -/
def lanesLinesSpec : ChangeSpec := { name := "lanesLines", fn := fun _ => fun
  | [d1, d2, d3] => { results := [.lit (.bool true)], args := [d1, d2, d3] }
  | _ => none }
def lanesLinesRow : OpenClaim := { program := "ytfahogbgkjockaa", sum := "2f7286a37b0c8527858e4e6ea78f629550e05f06d327a64ca281ae2de85bc3d3", func := "trunnion/trunnionlaw01.LanesLines", spec := "lanesLines", unfollowed := true, recurses := true, apart := false }
def LanesLinesSaid : Prop := lanesLinesRow.holds Try.pinned (OpenSpec.ofChange lanesLinesSpec)

/-- ITS FALSE NEIGHBOUR: 'it returns false'. Refute it at one input. -/
def lanesLinesWrong : ChangeSpec := { name := "lanesLines", fn := fun _ => fun
  | [d1, d2, d3] => { results := [.lit (.bool false)], args := [d1, d2, d3] }
  | _ => none }
def LanesLinesWrongFalsely : Prop := lanesLinesRow.holds Try.pinned (OpenSpec.ofChange lanesLinesWrong)

/-- 'trunnionlaw01.LanesTimes': WHATEVER THE INPUT: true; the input reads as it did. -/
def lanesTimesSpec : ChangeSpec := { name := "lanesTimes", fn := fun _ => fun
  | [d1, d2] => { results := [.lit (.bool true)], args := [d1, d2] }
  | _ => none }
def lanesTimesRow : OpenClaim := { program := "ytfahogbgkjockaa", sum := "2f7286a37b0c8527858e4e6ea78f629550e05f06d327a64ca281ae2de85bc3d3", func := "trunnion/trunnionlaw01.LanesTimes", spec := "lanesTimes", apart := false }
def LanesTimesSaid : Prop := lanesTimesRow.holds Try.pinned (OpenSpec.ofChange lanesTimesSpec)

/-- ITS FALSE NEIGHBOUR: 'it returns false'. Refute it at one input. -/
def lanesTimesWrong : ChangeSpec := { name := "lanesTimes", fn := fun _ => fun
  | [d1, d2] => { results := [.lit (.bool false)], args := [d1, d2] }
  | _ => none }
def LanesTimesWrongFalsely : Prop := lanesTimesRow.holds Try.pinned (OpenSpec.ofChange lanesTimesWrong)

/-- 'trunnionlaw01.LanesApart': WHATEVER THE INPUT: true; the input reads as it did. -/
def lanesApartSpec : ChangeSpec := { name := "lanesApart", fn := fun _ => fun
  | [d1, d2, d3] => { results := [.lit (.bool true)], args := [d1, d2, d3] }
  | _ => none }
def lanesApartRow : OpenClaim := { program := "ytfahogbgkjockaa", sum := "2f7286a37b0c8527858e4e6ea78f629550e05f06d327a64ca281ae2de85bc3d3", func := "trunnion/trunnionlaw01.LanesApart", spec := "lanesApart", apart := false }
def LanesApartSaid : Prop := lanesApartRow.holds Try.pinned (OpenSpec.ofChange lanesApartSpec)

/-- ITS FALSE NEIGHBOUR: 'it returns false'. Refute it at one input. -/
def lanesApartWrong : ChangeSpec := { name := "lanesApart", fn := fun _ => fun
  | [d1, d2, d3] => { results := [.lit (.bool false)], args := [d1, d2, d3] }
  | _ => none }
def LanesApartWrongFalsely : Prop := lanesApartRow.holds Try.pinned (OpenSpec.ofChange lanesApartWrong)

/- THE SECOND FORM. 'bulk': how many values and letters a reading holds, each counted each time it is reached (what is shared counts as often as it is met; a slice's spare places count too). A statement '..UptoSaid' is the law's where the arguments, and the package variables that the reading takes, are together of bulk at most 1048576: NARROWER than '..Said'. Prove '..Said' where nothing that the law and all that it calls make is longer than what came in: it says more and counts as full. Else prove '..UptoSaid'. A law counts once. -/
mutual
def uptoBulk {H : Type} : DataW H → Nat
  | .lit (.string bytes) => bytes.length + 1
  | .lit _ => 1
  | .nil => 1
  | .ptr d => uptoBulk d + 1
  | .slice elems spare => uptoBulkAll elems + uptoBulkAll spare + 1
  | .agg parts => uptoBulkAll parts + 1
  | .iface _ d => uptoBulk d + 1
  | .map entries => uptoBulkEntries entries + 1
  | .held _ => 1
def uptoBulkAll {H : Type} : List (DataW H) → Nat
  | [] => 0
  | d :: r => uptoBulk d + uptoBulkAll r
def uptoBulkEntries {H : Type} : List (Lit × DataW H) → Nat
  | [] => 0
  | x :: r => uptoBulkEntry x + uptoBulkEntries r
def uptoBulkEntry {H : Type} : Lit × DataW H → Nat
  | (.string bytes, d) => bytes.length + uptoBulk d + 1
  | (_, d) => uptoBulk d + 1
 end
def uptoSmall : (H : Type) → List (DataW H) → Bool := fun _ ds => decide (uptoBulkAll ds ≤ 1048576)
def OpenSpec.upto (s : _root_.Go.ChangeSpec) : _root_.Go.OpenSpec := { _root_.Go.OpenSpec.ofChange s with cond := some uptoSmall }

/-- 'trunnionlaw01.LanesLoads', WHERE WHAT IT READS IS OF BULK AT MOST 1048576: true; the input reads as it did. -/
def lanesLoadsUptoRow : OpenClaim := { program := "ytfahogbgkjockaa", sum := "2f7286a37b0c8527858e4e6ea78f629550e05f06d327a64ca281ae2de85bc3d3", func := "trunnion/trunnionlaw01.LanesLoads", spec := "lanesLoads", apart := false, narrowed := true }
def LanesLoadsUptoSaid : Prop := lanesLoadsUptoRow.holds Try.pinned (OpenSpec.upto lanesLoadsSpec)

/-- 'trunnionlaw01.LanesBack', WHERE WHAT IT READS IS OF BULK AT MOST 1048576: true; the input reads as it did. -/
def lanesBackUptoRow : OpenClaim := { program := "ytfahogbgkjockaa", sum := "2f7286a37b0c8527858e4e6ea78f629550e05f06d327a64ca281ae2de85bc3d3", func := "trunnion/trunnionlaw01.LanesBack", spec := "lanesBack", apart := false, narrowed := true }
def LanesBackUptoSaid : Prop := lanesBackUptoRow.holds Try.pinned (OpenSpec.upto lanesBackSpec)

/-- 'trunnionlaw01.LanesStores', WHERE WHAT IT READS IS OF BULK AT MOST 1048576: true; the input reads as it did. -/
def lanesStoresUptoRow : OpenClaim := { program := "ytfahogbgkjockaa", sum := "2f7286a37b0c8527858e4e6ea78f629550e05f06d327a64ca281ae2de85bc3d3", func := "trunnion/trunnionlaw01.LanesStores", spec := "lanesStores", apart := false, narrowed := true }
def LanesStoresUptoSaid : Prop := lanesStoresUptoRow.holds Try.pinned (OpenSpec.upto lanesStoresSpec)

/-- 'trunnionlaw01.LanesLines', WHERE WHAT IT READS IS OF BULK AT MOST 1048576: true; the input reads as it did. -/
def lanesLinesUptoRow : OpenClaim := { program := "ytfahogbgkjockaa", sum := "2f7286a37b0c8527858e4e6ea78f629550e05f06d327a64ca281ae2de85bc3d3", func := "trunnion/trunnionlaw01.LanesLines", spec := "lanesLines", unfollowed := true, recurses := true, apart := false, narrowed := true }
def LanesLinesUptoSaid : Prop := lanesLinesUptoRow.holds Try.pinned (OpenSpec.upto lanesLinesSpec)

/-- 'trunnionlaw01.LanesTimes', WHERE WHAT IT READS IS OF BULK AT MOST 1048576: true; the input reads as it did. -/
def lanesTimesUptoRow : OpenClaim := { program := "ytfahogbgkjockaa", sum := "2f7286a37b0c8527858e4e6ea78f629550e05f06d327a64ca281ae2de85bc3d3", func := "trunnion/trunnionlaw01.LanesTimes", spec := "lanesTimes", apart := false, narrowed := true }
def LanesTimesUptoSaid : Prop := lanesTimesUptoRow.holds Try.pinned (OpenSpec.upto lanesTimesSpec)

/-- 'trunnionlaw01.LanesApart', WHERE WHAT IT READS IS OF BULK AT MOST 1048576: true; the input reads as it did. -/
def lanesApartUptoRow : OpenClaim := { program := "ytfahogbgkjockaa", sum := "2f7286a37b0c8527858e4e6ea78f629550e05f06d327a64ca281ae2de85bc3d3", func := "trunnion/trunnionlaw01.LanesApart", spec := "lanesApart", apart := false, narrowed := true }
def LanesApartUptoSaid : Prop := lanesApartUptoRow.holds Try.pinned (OpenSpec.upto lanesApartSpec)

end Rows
end Go.Proofs.Ytfahogbgkjockaa
