/-
  No cell of these rows narrows 'for every input' (looked for: loops, veiled, ifaces, maps, wideKeys, modest, calm, conditions, laid).
  DERIVED. THE GIVEN ROWS OF THIS SEAT. 6 by the template 'for every input the law returns true; each argument reads behind the call as it read before'; 0 by the template 'total and deterministic' (their statements: YtgjalgmnkadbaaaTotals.lean).
  GIVEN WITH THE SEED: the statements are not yours to turn. If you find one false, say at which input.
  Laid BY PROGRAM, IN A SANDBOX (cutbox-rows.mjs): the forced cells as the released guide's own fill.sh prints them over the translation f9019191ff032c89… (all of the seat's roots in one cut). By AI agents, Wed Nov 11 2026. No macro, syntax, notation, axiom, sorry.
-/
import Derived.Test.YtgjalgmnkadbaaaChecked
import GoSem.Claim
import GoSem.ClaimJoined
import GoSem.ClaimMapViews
import Derived.JoinedTies
import Derived.KernelRfl
namespace Go.Proofs.Ytgjalgmnkadbaaa
/- THE CELL 'sum', in the pinned program and in every row, IS THE sha256 OF THE DUMP (.gsa) THAT YtgjalgmnkadbaaaProg.lean LOADS. Nothing in Lean hashes anything: it is a label: what it is worth is what the hold of that sum in a sandbox is worth. -/
noncomputable def Try.pinned : Pinned := { name := "ytgjalgmnkadbaaa", sum := "f9019191ff032c896377a1fe70a6b33dc696c093dba5c273dca8197aa650a619", checked := Try.checked }
namespace Rows
def none {H : Type} : Left H := { results := [], args := [] }

/-- 'trunnionlaw09.GeomRounds': WHATEVER THE INPUT: true; the input reads as it did. -/
def geomRoundsSpec : ChangeSpec := { name := "geomRounds", fn := fun _ => fun
  | [d1, d2] => { results := [.lit (.bool true)], args := [d1, d2] }
  | _ => none }
def geomRoundsRow : OpenClaim := { program := "ytgjalgmnkadbaaa", sum := "f9019191ff032c896377a1fe70a6b33dc696c093dba5c273dca8197aa650a619", func := "trunnion/trunnionlaw09.GeomRounds", spec := "geomRounds", plainKeys := false, apart := false }
def GeomRoundsSaid : Prop := geomRoundsRow.holds Try.pinned (OpenSpec.ofChange geomRoundsSpec)

/-- ITS FALSE NEIGHBOUR: 'it returns false'. Refute it at one input. -/
def geomRoundsWrong : ChangeSpec := { name := "geomRounds", fn := fun _ => fun
  | [d1, d2] => { results := [.lit (.bool false)], args := [d1, d2] }
  | _ => none }
def GeomRoundsWrongFalsely : Prop := geomRoundsRow.holds Try.pinned (OpenSpec.ofChange geomRoundsWrong)

/-- 'trunnionlaw09.GeomGood': WHATEVER THE INPUT: true; the input reads as it did. -/
def geomGoodSpec : ChangeSpec := { name := "geomGood", fn := fun _ => fun
  | [d] => { results := [.lit (.bool true)], args := [d] }
  | _ => none }
def geomGoodRow : OpenClaim := { program := "ytgjalgmnkadbaaa", sum := "f9019191ff032c896377a1fe70a6b33dc696c093dba5c273dca8197aa650a619", func := "trunnion/trunnionlaw09.GeomGood", spec := "geomGood", plainKeys := false, apart := false }
def GeomGoodSaid : Prop := geomGoodRow.holds Try.pinned (OpenSpec.ofChange geomGoodSpec)

/-- ITS FALSE NEIGHBOUR: 'it returns false'. Refute it at one input. -/
def geomGoodWrong : ChangeSpec := { name := "geomGood", fn := fun _ => fun
  | [d] => { results := [.lit (.bool false)], args := [d] }
  | _ => none }
def GeomGoodWrongFalsely : Prop := geomGoodRow.holds Try.pinned (OpenSpec.ofChange geomGoodWrong)

/-- 'trunnionlaw09.GeomRows': WHATEVER THE INPUT: true; the input reads as it did. -/
def geomRowsSpec : ChangeSpec := { name := "geomRows", fn := fun _ => fun
  | [d1, d2] => { results := [.lit (.bool true)], args := [d1, d2] }
  | _ => none }
def geomRowsRow : OpenClaim := { program := "ytgjalgmnkadbaaa", sum := "f9019191ff032c896377a1fe70a6b33dc696c093dba5c273dca8197aa650a619", func := "trunnion/trunnionlaw09.GeomRows", spec := "geomRows", plainKeys := false, apart := false }
def GeomRowsSaid : Prop := geomRowsRow.holds Try.pinned (OpenSpec.ofChange geomRowsSpec)

/-- ITS FALSE NEIGHBOUR: 'it returns false'. Refute it at one input. -/
def geomRowsWrong : ChangeSpec := { name := "geomRows", fn := fun _ => fun
  | [d1, d2] => { results := [.lit (.bool false)], args := [d1, d2] }
  | _ => none }
def GeomRowsWrongFalsely : Prop := geomRowsRow.holds Try.pinned (OpenSpec.ofChange geomRowsWrong)

/-- 'trunnionlaw09.GeomFinds': WHATEVER THE INPUT: true; the input reads as it did. -/
def geomFindsSpec : ChangeSpec := { name := "geomFinds", fn := fun _ => fun
  | [d1, d2, d3] => { results := [.lit (.bool true)], args := [d1, d2, d3] }
  | _ => none }
def geomFindsRow : OpenClaim := { program := "ytgjalgmnkadbaaa", sum := "f9019191ff032c896377a1fe70a6b33dc696c093dba5c273dca8197aa650a619", func := "trunnion/trunnionlaw09.GeomFinds", spec := "geomFinds", plainKeys := false, apart := false }
def GeomFindsSaid : Prop := geomFindsRow.holds Try.pinned (OpenSpec.ofChange geomFindsSpec)

/-- ITS FALSE NEIGHBOUR: 'it returns false'. Refute it at one input. -/
def geomFindsWrong : ChangeSpec := { name := "geomFinds", fn := fun _ => fun
  | [d1, d2, d3] => { results := [.lit (.bool false)], args := [d1, d2, d3] }
  | _ => none }
def GeomFindsWrongFalsely : Prop := geomFindsRow.holds Try.pinned (OpenSpec.ofChange geomFindsWrong)

/-- 'trunnionlaw09.GeomTouched': WHATEVER THE INPUT: true; the input reads as it did. -/
def geomTouchedSpec : ChangeSpec := { name := "geomTouched", fn := fun _ => fun
  | [d1, d2, d3] => { results := [.lit (.bool true)], args := [d1, d2, d3] }
  | _ => none }
def geomTouchedRow : OpenClaim := { program := "ytgjalgmnkadbaaa", sum := "f9019191ff032c896377a1fe70a6b33dc696c093dba5c273dca8197aa650a619", func := "trunnion/trunnionlaw09.GeomTouched", spec := "geomTouched", plainKeys := false, apart := false }
def GeomTouchedSaid : Prop := geomTouchedRow.holds Try.pinned (OpenSpec.ofChange geomTouchedSpec)

/-- ITS FALSE NEIGHBOUR: 'it returns false'. Refute it at one input. -/
def geomTouchedWrong : ChangeSpec := { name := "geomTouched", fn := fun _ => fun
  | [d1, d2, d3] => { results := [.lit (.bool false)], args := [d1, d2, d3] }
  | _ => none }
def GeomTouchedWrongFalsely : Prop := geomTouchedRow.holds Try.pinned (OpenSpec.ofChange geomTouchedWrong)

/-- 'trunnionlaw09.GeomOnce': WHATEVER THE INPUT: true; the input reads as it did. -/
def geomOnceSpec : ChangeSpec := { name := "geomOnce", fn := fun _ => fun
  | [d] => { results := [.lit (.bool true)], args := [d] }
  | _ => none }
def geomOnceRow : OpenClaim := { program := "ytgjalgmnkadbaaa", sum := "f9019191ff032c896377a1fe70a6b33dc696c093dba5c273dca8197aa650a619", func := "trunnion/trunnionlaw09.GeomOnce", spec := "geomOnce", plainKeys := false, apart := false }
def GeomOnceSaid : Prop := geomOnceRow.holds Try.pinned (OpenSpec.ofChange geomOnceSpec)

/-- ITS FALSE NEIGHBOUR: 'it returns false'. Refute it at one input. -/
def geomOnceWrong : ChangeSpec := { name := "geomOnce", fn := fun _ => fun
  | [d] => { results := [.lit (.bool false)], args := [d] }
  | _ => none }
def GeomOnceWrongFalsely : Prop := geomOnceRow.holds Try.pinned (OpenSpec.ofChange geomOnceWrong)

/- THE SECOND FORM. 'bulk': how many values and letters a reading holds, each counted each time it is reached (what is shared counts as often as it is met; a slice's spare places count too). A statement '..UptoSaid' is the law's where the arguments, and the package variables that the reading takes, are together of bulk at most 1048576: NARROWER than '..Said'. Prove '..Said' where nothing that the law and all that it calls make is longer than what came in: it says more and counts as full. Else prove '..UptoSaid'. A law counts once. -/
mutual
def uptoBulk {H : Type} : DataW H → Nat
  | .lit (.string bytes) => bytes.length + 1
  | .lit _ => 1
  | .nil => 1
  | .ptr d => uptoBulk d + 1
  | .slice elems spare => uptoBulkAll elems + uptoBulkAll spare + 1
  | .agg parts => uptoBulkAll parts + 1
  | .iface _ d => uptoBulk d + 1
  | .map entries => uptoBulkEntries entries + 1
  | .held _ => 1
def uptoBulkAll {H : Type} : List (DataW H) → Nat
  | [] => 0
  | d :: r => uptoBulk d + uptoBulkAll r
def uptoBulkEntries {H : Type} : List (Lit × DataW H) → Nat
  | [] => 0
  | x :: r => uptoBulkEntry x + uptoBulkEntries r
def uptoBulkEntry {H : Type} : Lit × DataW H → Nat
  | (.string bytes, d) => bytes.length + uptoBulk d + 1
  | (_, d) => uptoBulk d + 1
 end
def uptoSmall : (H : Type) → List (DataW H) → Bool := fun _ ds => decide (uptoBulkAll ds ≤ 1048576)
def OpenSpec.upto (s : _root_.Go.ChangeSpec) : _root_.Go.OpenSpec := { _root_.Go.OpenSpec.ofChange s with cond := some uptoSmall }

/-- 'trunnionlaw09.GeomRounds', WHERE WHAT IT READS IS OF BULK AT MOST 1048576: true; the input reads as it did. -/
def geomRoundsUptoRow : OpenClaim := { program := "ytgjalgmnkadbaaa", sum := "f9019191ff032c896377a1fe70a6b33dc696c093dba5c273dca8197aa650a619", func := "trunnion/trunnionlaw09.GeomRounds", spec := "geomRounds", plainKeys := false, apart := false, narrowed := true }
def GeomRoundsUptoSaid : Prop := geomRoundsUptoRow.holds Try.pinned (OpenSpec.upto geomRoundsSpec)

/-- 'trunnionlaw09.GeomGood', WHERE WHAT IT READS IS OF BULK AT MOST 1048576: true; the input reads as it did. -/
def geomGoodUptoRow : OpenClaim := { program := "ytgjalgmnkadbaaa", sum := "f9019191ff032c896377a1fe70a6b33dc696c093dba5c273dca8197aa650a619", func := "trunnion/trunnionlaw09.GeomGood", spec := "geomGood", plainKeys := false, apart := false, narrowed := true }
def GeomGoodUptoSaid : Prop := geomGoodUptoRow.holds Try.pinned (OpenSpec.upto geomGoodSpec)

/-- 'trunnionlaw09.GeomRows', WHERE WHAT IT READS IS OF BULK AT MOST 1048576: true; the input reads as it did. -/
def geomRowsUptoRow : OpenClaim := { program := "ytgjalgmnkadbaaa", sum := "f9019191ff032c896377a1fe70a6b33dc696c093dba5c273dca8197aa650a619", func := "trunnion/trunnionlaw09.GeomRows", spec := "geomRows", plainKeys := false, apart := false, narrowed := true }
def GeomRowsUptoSaid : Prop := geomRowsUptoRow.holds Try.pinned (OpenSpec.upto geomRowsSpec)

/-- 'trunnionlaw09.GeomFinds', WHERE WHAT IT READS IS OF BULK AT MOST 1048576: true; the input reads as it did. -/
def geomFindsUptoRow : OpenClaim := { program := "ytgjalgmnkadbaaa", sum := "f9019191ff032c896377a1fe70a6b33dc696c093dba5c273dca8197aa650a619", func := "trunnion/trunnionlaw09.GeomFinds", spec := "geomFinds", plainKeys := false, apart := false, narrowed := true }
def GeomFindsUptoSaid : Prop := geomFindsUptoRow.holds Try.pinned (OpenSpec.upto geomFindsSpec)

/-- 'trunnionlaw09.GeomTouched', WHERE WHAT IT READS IS OF BULK AT MOST 1048576: true; the input reads as it did. -/
def geomTouchedUptoRow : OpenClaim := { program := "ytgjalgmnkadbaaa", sum := "f9019191ff032c896377a1fe70a6b33dc696c093dba5c273dca8197aa650a619", func := "trunnion/trunnionlaw09.GeomTouched", spec := "geomTouched", plainKeys := false, apart := false, narrowed := true }
def GeomTouchedUptoSaid : Prop := geomTouchedUptoRow.holds Try.pinned (OpenSpec.upto geomTouchedSpec)

/-- 'trunnionlaw09.GeomOnce', WHERE WHAT IT READS IS OF BULK AT MOST 1048576: true; the input reads as it did. -/
def geomOnceUptoRow : OpenClaim := { program := "ytgjalgmnkadbaaa", sum := "f9019191ff032c896377a1fe70a6b33dc696c093dba5c273dca8197aa650a619", func := "trunnion/trunnionlaw09.GeomOnce", spec := "geomOnce", plainKeys := false, apart := false, narrowed := true }
def GeomOnceUptoSaid : Prop := geomOnceUptoRow.holds Try.pinned (OpenSpec.upto geomOnceSpec)

end Rows
end Go.Proofs.Ytgjalgmnkadbaaa
