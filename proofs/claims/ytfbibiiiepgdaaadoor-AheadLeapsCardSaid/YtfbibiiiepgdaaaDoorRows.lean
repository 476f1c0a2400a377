/-
  NARROWER THAN 'FOR EVERY INPUT', by the rows' own cells (each row's printed sentence says how): AheadServes: laid · AheadOnce: laid · AheadPlays: laid · AheadLeaps: laid.
  DERIVED. THE GIVEN ROWS OF THIS SEAT. 4 by the template 'for every input the law returns true; each argument reads behind the call as it read before'; 0 by the template 'total and deterministic' (their statements: YtfbibiiiepgdaaaDoorTotals.lean).
  GIVEN WITH THE SEED: the statements are not yours to turn. If you find one false, say at which input.
  Laid BY PROGRAM, IN A SANDBOX (cutbox-rows.mjs): the forced cells as the released guide's own fill.sh prints them over the translation 088e50fb2839e014… (all of the seat's roots in one cut). By AI agents, Wed Nov 11 2026. No macro, syntax, notation, axiom, sorry.
-/
import Derived.Test.YtfbibiiiepgdaaaDoorChecked
import GoSem.Claim
import GoSem.ClaimJoined
import GoSem.ClaimMapViews
import Derived.JoinedTies
import Derived.KernelRfl
namespace Go.Proofs.YtfbibiiiepgdaaaDoor
/- THE CELL 'sum', in the pinned program and in every row, IS THE sha256 OF THE DUMP (.gsa) THAT YtfbibiiiepgdaaaDoorProg.lean LOADS. Nothing in Lean hashes anything: it is a label: what it is worth is what the hold of that sum in a sandbox is worth. -/
noncomputable def Tryd.pinned : Pinned := { name := "ytfbibiiiepgdaaadoor", sum := "088e50fb2839e0142a0d6a2c3579bd426a87fd3b36922b0d4f521182706a80b0", checked := Tryd.checked }
namespace Rows
def none {H : Type} : Left H := { results := [], args := [] }

/- WHAT THE LISTED PACKAGE-LEVEL VARIABLES READ AS WHEN THE CALL BEGINS. Each datum BY PROGRAM (the guide's laid-datum.mjs) off the statement by which the dump's own 'gosem.cut.vars' lays the variable. In a bare row this is a premise. The card (YtfbibiiiepgdaaaDoorCards.lean) ties it to the program's text. -/
def laid_trunnion_ahead_start {H : Type} : DataW H := .agg [.lit (.int .i64 (-1)), .lit (.int .i64 0), .lit (.int .i64 0), .lit (.int .i64 0)]

/-- 'trunnionlaw22.AheadServes': WHATEVER THE INPUT: true; the input reads as it did. -/
def aheadServesSpec : ChangeSpec := { name := "aheadServes", fn := fun _ => fun
  | [d1, d2] => { results := [.lit (.bool true)], args := [d1, d2] }
  | _ => none }
def aheadServesRow : OpenClaim := { program := "ytfbibiiiepgdaaadoor", sum := "088e50fb2839e0142a0d6a2c3579bd426a87fd3b36922b0d4f521182706a80b0", func := "trunnion/trunnionlaw22.AheadServes", spec := "aheadServes", named := ["trunnion/ahead.start"], apart := false, laid := [("trunnion/ahead.start", laid_trunnion_ahead_start)] }
def AheadServesSaid : Prop := aheadServesRow.holds Tryd.pinned (OpenSpec.ofChange aheadServesSpec)

/-- ITS FALSE NEIGHBOUR: 'it returns false'. Refute it at one input. -/
def aheadServesWrong : ChangeSpec := { name := "aheadServes", fn := fun _ => fun
  | [d1, d2] => { results := [.lit (.bool false)], args := [d1, d2] }
  | _ => none }
def AheadServesWrongFalsely : Prop := aheadServesRow.holds Tryd.pinned (OpenSpec.ofChange aheadServesWrong)

/-- 'trunnionlaw22.AheadOnce': WHATEVER THE INPUT: true; the input reads as it did. -/
def aheadOnceSpec : ChangeSpec := { name := "aheadOnce", fn := fun _ => fun
  | [d1, d2, d3] => { results := [.lit (.bool true)], args := [d1, d2, d3] }
  | _ => none }
def aheadOnceRow : OpenClaim := { program := "ytfbibiiiepgdaaadoor", sum := "088e50fb2839e0142a0d6a2c3579bd426a87fd3b36922b0d4f521182706a80b0", func := "trunnion/trunnionlaw22.AheadOnce", spec := "aheadOnce", named := ["trunnion/ahead.start"], apart := false, laid := [("trunnion/ahead.start", laid_trunnion_ahead_start)] }
def AheadOnceSaid : Prop := aheadOnceRow.holds Tryd.pinned (OpenSpec.ofChange aheadOnceSpec)

/-- ITS FALSE NEIGHBOUR: 'it returns false'. Refute it at one input. -/
def aheadOnceWrong : ChangeSpec := { name := "aheadOnce", fn := fun _ => fun
  | [d1, d2, d3] => { results := [.lit (.bool false)], args := [d1, d2, d3] }
  | _ => none }
def AheadOnceWrongFalsely : Prop := aheadOnceRow.holds Tryd.pinned (OpenSpec.ofChange aheadOnceWrong)

/-- 'trunnionlaw22.AheadPlays': WHATEVER THE INPUT: true; the input reads as it did. -/
def aheadPlaysSpec : ChangeSpec := { name := "aheadPlays", fn := fun _ => fun
  | [d1, d2] => { results := [.lit (.bool true)], args := [d1, d2] }
  | _ => none }
def aheadPlaysRow : OpenClaim := { program := "ytfbibiiiepgdaaadoor", sum := "088e50fb2839e0142a0d6a2c3579bd426a87fd3b36922b0d4f521182706a80b0", func := "trunnion/trunnionlaw22.AheadPlays", spec := "aheadPlays", named := ["trunnion/ahead.start"], apart := false, laid := [("trunnion/ahead.start", laid_trunnion_ahead_start)] }
def AheadPlaysSaid : Prop := aheadPlaysRow.holds Tryd.pinned (OpenSpec.ofChange aheadPlaysSpec)

/-- ITS FALSE NEIGHBOUR: 'it returns false'. Refute it at one input. -/
def aheadPlaysWrong : ChangeSpec := { name := "aheadPlays", fn := fun _ => fun
  | [d1, d2] => { results := [.lit (.bool false)], args := [d1, d2] }
  | _ => none }
def AheadPlaysWrongFalsely : Prop := aheadPlaysRow.holds Tryd.pinned (OpenSpec.ofChange aheadPlaysWrong)

/-- 'trunnionlaw22.AheadLeaps': WHATEVER THE INPUT: true; the input reads as it did. -/
def aheadLeapsSpec : ChangeSpec := { name := "aheadLeaps", fn := fun _ => fun
  | [d1, d2] => { results := [.lit (.bool true)], args := [d1, d2] }
  | _ => none }
def aheadLeapsRow : OpenClaim := { program := "ytfbibiiiepgdaaadoor", sum := "088e50fb2839e0142a0d6a2c3579bd426a87fd3b36922b0d4f521182706a80b0", func := "trunnion/trunnionlaw22.AheadLeaps", spec := "aheadLeaps", named := ["trunnion/ahead.start"], apart := false, laid := [("trunnion/ahead.start", laid_trunnion_ahead_start)] }
def AheadLeapsSaid : Prop := aheadLeapsRow.holds Tryd.pinned (OpenSpec.ofChange aheadLeapsSpec)

/-- ITS FALSE NEIGHBOUR: 'it returns false'. Refute it at one input. -/
def aheadLeapsWrong : ChangeSpec := { name := "aheadLeaps", fn := fun _ => fun
  | [d1, d2] => { results := [.lit (.bool false)], args := [d1, d2] }
  | _ => none }
def AheadLeapsWrongFalsely : Prop := aheadLeapsRow.holds Tryd.pinned (OpenSpec.ofChange aheadLeapsWrong)

/- THE SECOND FORM. 'bulk': how many values and letters a reading holds, each counted each time it is reached (what is shared counts as often as it is met; a slice's spare places count too). A statement '..UptoSaid' is the law's where the arguments, and the package variables that the reading takes, are together of bulk at most 1048576: NARROWER than '..Said'. Prove '..Said' where nothing that the law and all that it calls make is longer than what came in: it says more and counts as full. Else prove '..UptoSaid'. A law counts once. -/
mutual
def uptoBulk {H : Type} : DataW H → Nat
  | .lit (.string bytes) => bytes.length + 1
  | .lit _ => 1
  | .nil => 1
  | .ptr d => uptoBulk d + 1
  | .slice elems spare => uptoBulkAll elems + uptoBulkAll spare + 1
  | .agg parts => uptoBulkAll parts + 1
  | .iface _ d => uptoBulk d + 1
  | .map entries => uptoBulkEntries entries + 1
  | .held _ => 1
def uptoBulkAll {H : Type} : List (DataW H) → Nat
  | [] => 0
  | d :: r => uptoBulk d + uptoBulkAll r
def uptoBulkEntries {H : Type} : List (Lit × DataW H) → Nat
  | [] => 0
  | x :: r => uptoBulkEntry x + uptoBulkEntries r
def uptoBulkEntry {H : Type} : Lit × DataW H → Nat
  | (.string bytes, d) => bytes.length + uptoBulk d + 1
  | (_, d) => uptoBulk d + 1
 end
def uptoSmall : (H : Type) → List (DataW H) → Bool := fun _ ds => decide (uptoBulkAll ds ≤ 1048576)
def OpenSpec.upto (s : _root_.Go.ChangeSpec) : _root_.Go.OpenSpec := { _root_.Go.OpenSpec.ofChange s with cond := some uptoSmall }

/-- 'trunnionlaw22.AheadServes', WHERE WHAT IT READS IS OF BULK AT MOST 1048576: true; the input reads as it did. -/
def aheadServesUptoRow : OpenClaim := { program := "ytfbibiiiepgdaaadoor", sum := "088e50fb2839e0142a0d6a2c3579bd426a87fd3b36922b0d4f521182706a80b0", func := "trunnion/trunnionlaw22.AheadServes", spec := "aheadServes", named := ["trunnion/ahead.start"], apart := false, laid := [("trunnion/ahead.start", laid_trunnion_ahead_start)], narrowed := true }
def AheadServesUptoSaid : Prop := aheadServesUptoRow.holds Tryd.pinned (OpenSpec.upto aheadServesSpec)

/-- 'trunnionlaw22.AheadOnce', WHERE WHAT IT READS IS OF BULK AT MOST 1048576: true; the input reads as it did. -/
def aheadOnceUptoRow : OpenClaim := { program := "ytfbibiiiepgdaaadoor", sum := "088e50fb2839e0142a0d6a2c3579bd426a87fd3b36922b0d4f521182706a80b0", func := "trunnion/trunnionlaw22.AheadOnce", spec := "aheadOnce", named := ["trunnion/ahead.start"], apart := false, laid := [("trunnion/ahead.start", laid_trunnion_ahead_start)], narrowed := true }
def AheadOnceUptoSaid : Prop := aheadOnceUptoRow.holds Tryd.pinned (OpenSpec.upto aheadOnceSpec)

/-- 'trunnionlaw22.AheadPlays', WHERE WHAT IT READS IS OF BULK AT MOST 1048576: true; the input reads as it did. -/
def aheadPlaysUptoRow : OpenClaim := { program := "ytfbibiiiepgdaaadoor", sum := "088e50fb2839e0142a0d6a2c3579bd426a87fd3b36922b0d4f521182706a80b0", func := "trunnion/trunnionlaw22.AheadPlays", spec := "aheadPlays", named := ["trunnion/ahead.start"], apart := false, laid := [("trunnion/ahead.start", laid_trunnion_ahead_start)], narrowed := true }
def AheadPlaysUptoSaid : Prop := aheadPlaysUptoRow.holds Tryd.pinned (OpenSpec.upto aheadPlaysSpec)

/-- 'trunnionlaw22.AheadLeaps', WHERE WHAT IT READS IS OF BULK AT MOST 1048576: true; the input reads as it did. -/
def aheadLeapsUptoRow : OpenClaim := { program := "ytfbibiiiepgdaaadoor", sum := "088e50fb2839e0142a0d6a2c3579bd426a87fd3b36922b0d4f521182706a80b0", func := "trunnion/trunnionlaw22.AheadLeaps", spec := "aheadLeaps", named := ["trunnion/ahead.start"], apart := false, laid := [("trunnion/ahead.start", laid_trunnion_ahead_start)], narrowed := true }
def AheadLeapsUptoSaid : Prop := aheadLeapsUptoRow.holds Tryd.pinned (OpenSpec.upto aheadLeapsSpec)

end Rows
end Go.Proofs.YtfbibiiiepgdaaaDoor
