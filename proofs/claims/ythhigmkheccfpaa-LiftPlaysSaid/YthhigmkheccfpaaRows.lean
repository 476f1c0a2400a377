/-
  No cell of these rows narrows 'for every input' (looked for: loops, veiled, ifaces, maps, wideKeys, modest, calm, conditions, laid).
  DERIVED. THE GIVEN ROWS OF THIS SEAT. 4 by the template 'for every input the law returns true; each argument reads behind the call as it read before'; 0 by the template 'total and deterministic' (their statements: YthhigmkheccfpaaTotals.lean).
  GIVEN WITH THE SEED: the statements are not yours to turn. If you find one false, say at which input.
  Laid BY PROGRAM, IN A SANDBOX (cutbox-rows.mjs): the forced cells as the released guide's own fill.sh prints them over the translation 10353e778cad2cf5… (all of the seat's roots in one cut). By AI agents, Wed Nov 11 2026. No macro, syntax, notation, axiom, sorry.
-/
import Derived.Test.YthhigmkheccfpaaChecked
import GoSem.Claim
import GoSem.ClaimJoined
import GoSem.ClaimMapViews
import Derived.JoinedTies
import Derived.KernelRfl
namespace Go.Proofs.Ythhigmkheccfpaa
/- THE CELL 'sum', in the pinned program and in every row, IS THE sha256 OF THE DUMP (.gsa) THAT YthhigmkheccfpaaProg.lean LOADS. Nothing in Lean hashes anything: it is a label: what it is worth is what the hold of that sum in a sandbox is worth. -/
noncomputable def Try.pinned : Pinned := { name := "ythhigmkheccfpaa", sum := "10353e778cad2cf5bbc7a0177aff61c463b6e00b20d6051e66a9917f542df1c8", checked := Try.checked }
namespace Rows
def none {H : Type} : Left H := { results := [], args := [] }

/-- 'trunnionlaw21.LiftBound': WHATEVER THE INPUT: true; the input reads as it did. -/
def liftBoundSpec : ChangeSpec := { name := "liftBound", fn := fun _ => fun
  | [d1, d2] => { results := [.lit (.bool true)], args := [d1, d2] }
  | _ => none }
def liftBoundRow : OpenClaim := { program := "ythhigmkheccfpaa", sum := "10353e778cad2cf5bbc7a0177aff61c463b6e00b20d6051e66a9917f542df1c8", func := "trunnion/trunnionlaw21.LiftBound", spec := "liftBound", inPlace := ["slices.overlaps[trunnion/lift.rider]"], unfollowed := true, recurses := true, apart := false }
def LiftBoundSaid : Prop := liftBoundRow.holds Try.pinned (OpenSpec.ofChange liftBoundSpec)

/-- ITS FALSE NEIGHBOUR: 'it returns false'. Refute it at one input. -/
def liftBoundWrong : ChangeSpec := { name := "liftBound", fn := fun _ => fun
  | [d1, d2] => { results := [.lit (.bool false)], args := [d1, d2] }
  | _ => none }
def LiftBoundWrongFalsely : Prop := liftBoundRow.holds Try.pinned (OpenSpec.ofChange liftBoundWrong)

/-- 'trunnionlaw21.LiftSweeps': WHATEVER THE INPUT: true; the input reads as it did. -/
def liftSweepsSpec : ChangeSpec := { name := "liftSweeps", fn := fun _ => fun
  | [d1, d2] => { results := [.lit (.bool true)], args := [d1, d2] }
  | _ => none }
def liftSweepsRow : OpenClaim := { program := "ythhigmkheccfpaa", sum := "10353e778cad2cf5bbc7a0177aff61c463b6e00b20d6051e66a9917f542df1c8", func := "trunnion/trunnionlaw21.LiftSweeps", spec := "liftSweeps", inPlace := ["slices.overlaps[trunnion/lift.rider]"], unfollowed := true, recurses := true, apart := false }
def LiftSweepsSaid : Prop := liftSweepsRow.holds Try.pinned (OpenSpec.ofChange liftSweepsSpec)

/-- ITS FALSE NEIGHBOUR: 'it returns false'. Refute it at one input. -/
def liftSweepsWrong : ChangeSpec := { name := "liftSweeps", fn := fun _ => fun
  | [d1, d2] => { results := [.lit (.bool false)], args := [d1, d2] }
  | _ => none }
def LiftSweepsWrongFalsely : Prop := liftSweepsRow.holds Try.pinned (OpenSpec.ofChange liftSweepsWrong)

/-- 'trunnionlaw21.LiftPlays': WHATEVER THE INPUT: true; the input reads as it did. -/
def liftPlaysSpec : ChangeSpec := { name := "liftPlays", fn := fun _ => fun
  | [d1, d2] => { results := [.lit (.bool true)], args := [d1, d2] }
  | _ => none }
def liftPlaysRow : OpenClaim := { program := "ythhigmkheccfpaa", sum := "10353e778cad2cf5bbc7a0177aff61c463b6e00b20d6051e66a9917f542df1c8", func := "trunnion/trunnionlaw21.LiftPlays", spec := "liftPlays", inPlace := ["slices.overlaps[trunnion/lift.rider]"], unfollowed := true, recurses := true, apart := false }
def LiftPlaysSaid : Prop := liftPlaysRow.holds Try.pinned (OpenSpec.ofChange liftPlaysSpec)

/-- ITS FALSE NEIGHBOUR: 'it returns false'. Refute it at one input. -/
def liftPlaysWrong : ChangeSpec := { name := "liftPlays", fn := fun _ => fun
  | [d1, d2] => { results := [.lit (.bool false)], args := [d1, d2] }
  | _ => none }
def LiftPlaysWrongFalsely : Prop := liftPlaysRow.holds Try.pinned (OpenSpec.ofChange liftPlaysWrong)

/-- 'trunnionlaw21.LiftFull': WHATEVER THE INPUT: true; the input reads as it did. -/
def liftFullSpec : ChangeSpec := { name := "liftFull", fn := fun _ => fun
  | [d] => { results := [.lit (.bool true)], args := [d] }
  | _ => none }
def liftFullRow : OpenClaim := { program := "ythhigmkheccfpaa", sum := "10353e778cad2cf5bbc7a0177aff61c463b6e00b20d6051e66a9917f542df1c8", func := "trunnion/trunnionlaw21.LiftFull", spec := "liftFull", inPlace := ["slices.overlaps[trunnion/lift.rider]"], unfollowed := true, recurses := true, apart := false }
def LiftFullSaid : Prop := liftFullRow.holds Try.pinned (OpenSpec.ofChange liftFullSpec)

/-- ITS FALSE NEIGHBOUR: 'it returns false'. Refute it at one input. -/
def liftFullWrong : ChangeSpec := { name := "liftFull", fn := fun _ => fun
  | [d] => { results := [.lit (.bool false)], args := [d] }
  | _ => none }
def LiftFullWrongFalsely : Prop := liftFullRow.holds Try.pinned (OpenSpec.ofChange liftFullWrong)

/- THE SECOND FORM. 'bulk': how many values and letters a reading holds, each counted each time it is reached (what is shared counts as often as it is met; a slice's spare places count too). A statement '..UptoSaid' is the law's where the arguments, and the package variables that the reading takes, are together of bulk at most 1048576: NARROWER than '..Said'. Prove '..Said' where nothing that the law and all that it calls make is longer than what came in: it says more and counts as full. Else prove '..UptoSaid'. A law counts once. -/
mutual
def uptoBulk {H : Type} : DataW H → Nat
  | .lit (.string bytes) => bytes.length + 1
  | .lit _ => 1
  | .nil => 1
  | .ptr d => uptoBulk d + 1
  | .slice elems spare => uptoBulkAll elems + uptoBulkAll spare + 1
  | .agg parts => uptoBulkAll parts + 1
  | .iface _ d => uptoBulk d + 1
  | .map entries => uptoBulkEntries entries + 1
  | .held _ => 1
def uptoBulkAll {H : Type} : List (DataW H) → Nat
  | [] => 0
  | d :: r => uptoBulk d + uptoBulkAll r
def uptoBulkEntries {H : Type} : List (Lit × DataW H) → Nat
  | [] => 0
  | x :: r => uptoBulkEntry x + uptoBulkEntries r
def uptoBulkEntry {H : Type} : Lit × DataW H → Nat
  | (.string bytes, d) => bytes.length + uptoBulk d + 1
  | (_, d) => uptoBulk d + 1
 end
def uptoSmall : (H : Type) → List (DataW H) → Bool := fun _ ds => decide (uptoBulkAll ds ≤ 1048576)
def OpenSpec.upto (s : _root_.Go.ChangeSpec) : _root_.Go.OpenSpec := { _root_.Go.OpenSpec.ofChange s with cond := some uptoSmall }

/-- 'trunnionlaw21.LiftBound', WHERE WHAT IT READS IS OF BULK AT MOST 1048576: true; the input reads as it did. -/
def liftBoundUptoRow : OpenClaim := { program := "ythhigmkheccfpaa", sum := "10353e778cad2cf5bbc7a0177aff61c463b6e00b20d6051e66a9917f542df1c8", func := "trunnion/trunnionlaw21.LiftBound", spec := "liftBound", inPlace := ["slices.overlaps[trunnion/lift.rider]"], unfollowed := true, recurses := true, apart := false, narrowed := true }
def LiftBoundUptoSaid : Prop := liftBoundUptoRow.holds Try.pinned (OpenSpec.upto liftBoundSpec)

/-- 'trunnionlaw21.LiftSweeps', WHERE WHAT IT READS IS OF BULK AT MOST 1048576: true; the input reads as it did. -/
def liftSweepsUptoRow : OpenClaim := { program := "ythhigmkheccfpaa", sum := "10353e778cad2cf5bbc7a0177aff61c463b6e00b20d6051e66a9917f542df1c8", func := "trunnion/trunnionlaw21.LiftSweeps", spec := "liftSweeps", inPlace := ["slices.overlaps[trunnion/lift.rider]"], unfollowed := true, recurses := true, apart := false, narrowed := true }
def LiftSweepsUptoSaid : Prop := liftSweepsUptoRow.holds Try.pinned (OpenSpec.upto liftSweepsSpec)

/-- 'trunnionlaw21.LiftPlays', WHERE WHAT IT READS IS OF BULK AT MOST 1048576: true; the input reads as it did. -/
def liftPlaysUptoRow : OpenClaim := { program := "ythhigmkheccfpaa", sum := "10353e778cad2cf5bbc7a0177aff61c463b6e00b20d6051e66a9917f542df1c8", func := "trunnion/trunnionlaw21.LiftPlays", spec := "liftPlays", inPlace := ["slices.overlaps[trunnion/lift.rider]"], unfollowed := true, recurses := true, apart := false, narrowed := true }
def LiftPlaysUptoSaid : Prop := liftPlaysUptoRow.holds Try.pinned (OpenSpec.upto liftPlaysSpec)

/-- 'trunnionlaw21.LiftFull', WHERE WHAT IT READS IS OF BULK AT MOST 1048576: true; the input reads as it did. -/
def liftFullUptoRow : OpenClaim := { program := "ythhigmkheccfpaa", sum := "10353e778cad2cf5bbc7a0177aff61c463b6e00b20d6051e66a9917f542df1c8", func := "trunnion/trunnionlaw21.LiftFull", spec := "liftFull", inPlace := ["slices.overlaps[trunnion/lift.rider]"], unfollowed := true, recurses := true, apart := false, narrowed := true }
def LiftFullUptoSaid : Prop := liftFullUptoRow.holds Try.pinned (OpenSpec.upto liftFullSpec)

end Rows
end Go.Proofs.Ythhigmkheccfpaa
