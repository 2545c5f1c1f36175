/-
  No cell of these rows narrows 'for every input' (looked for: loops, veiled, ifaces, maps, wideKeys, modest, calm, conditions, laid).
  DERIVED. THE GIVEN ROWS OF THIS SEAT. 5 by the template 'for every input the law returns true; each argument reads behind the call as it read before'; 0 by the template 'total and deterministic' (their statements: YtpjefioopbnolaaTotals.lean).
  GIVEN WITH THE SEED: the statements are not yours to turn. If you find one false, say at which input.
  Laid BY PROGRAM, IN A SANDBOX (cutbox-rows.mjs): the forced cells as the released guide's own fill.sh prints them over the translation 4a4a67623d0d88ca… (all of the seat's roots in one cut). By AI agents, Wed Nov 11 2026. No macro, syntax, notation, axiom, sorry.
-/
import Derived.Test.YtpjefioopbnolaaChecked
import GoSem.Claim
import GoSem.ClaimJoined
import GoSem.ClaimMapViews
import Derived.JoinedTies
import Derived.KernelRfl
namespace Go.Proofs.Ytpjefioopbnolaa
/- THE CELL 'sum', in the pinned program and in every row, IS THE sha256 OF THE DUMP (.gsa) THAT YtpjefioopbnolaaProg.lean LOADS. Nothing in Lean hashes anything: it is a label: what it is worth is what the hold of that sum in a sandbox is worth. -/
noncomputable def Try.pinned : Pinned := { name := "ytpjefioopbnolaa", sum := "4a4a67623d0d88ca93bdcbb86c81197ad0e17b90c2027c9bcbd539f20fe39384", checked := Try.checked }
namespace Rows
def none {H : Type} : Left H := { results := [], args := [] }

/-- 'padlocklaw30.GaugeAll': WHATEVER THE INPUT: true; the input reads as it did. -/
def gaugeAllSpec : ChangeSpec := { name := "gaugeAll", fn := fun _ => fun
  | [d1, d2] => { results := [.lit (.bool true)], args := [d1, d2] }
  | _ => none }
def gaugeAllRow : OpenClaim := { program := "ytpjefioopbnolaa", sum := "4a4a67623d0d88ca93bdcbb86c81197ad0e17b90c2027c9bcbd539f20fe39384", func := "padlock/padlocklaw30.GaugeAll", spec := "gaugeAll", inPlace := ["math.Float64bits", "math.Float64frombits", "math.archMax"], apart := false }
def GaugeAllSaid : Prop := gaugeAllRow.holds Try.pinned (OpenSpec.ofChange gaugeAllSpec)

/-- ITS FALSE NEIGHBOUR: 'it returns false'. Refute it at one input. -/
def gaugeAllWrong : ChangeSpec := { name := "gaugeAll", fn := fun _ => fun
  | [d1, d2] => { results := [.lit (.bool false)], args := [d1, d2] }
  | _ => none }
def GaugeAllWrongFalsely : Prop := gaugeAllRow.holds Try.pinned (OpenSpec.ofChange gaugeAllWrong)

/-- 'padlocklaw30.GaugeMeans': WHATEVER THE INPUT: true; the input reads as it did. -/
def gaugeMeansSpec : ChangeSpec := { name := "gaugeMeans", fn := fun _ => fun
  | [d1, d2, d3] => { results := [.lit (.bool true)], args := [d1, d2, d3] }
  | _ => none }
def gaugeMeansRow : OpenClaim := { program := "ytpjefioopbnolaa", sum := "4a4a67623d0d88ca93bdcbb86c81197ad0e17b90c2027c9bcbd539f20fe39384", func := "padlock/padlocklaw30.GaugeMeans", spec := "gaugeMeans", inPlace := ["math.Float64frombits", "math.archMax", "math.Float64bits"], apart := false }
def GaugeMeansSaid : Prop := gaugeMeansRow.holds Try.pinned (OpenSpec.ofChange gaugeMeansSpec)

/-- ITS FALSE NEIGHBOUR: 'it returns false'. Refute it at one input. -/
def gaugeMeansWrong : ChangeSpec := { name := "gaugeMeans", fn := fun _ => fun
  | [d1, d2, d3] => { results := [.lit (.bool false)], args := [d1, d2, d3] }
  | _ => none }
def GaugeMeansWrongFalsely : Prop := gaugeMeansRow.holds Try.pinned (OpenSpec.ofChange gaugeMeansWrong)

/-- 'padlocklaw30.GaugeFair': WHATEVER THE INPUT: true; the input reads as it did. -/
def gaugeFairSpec : ChangeSpec := { name := "gaugeFair", fn := fun _ => fun
  | [d1, d2] => { results := [.lit (.bool true)], args := [d1, d2] }
  | _ => none }
def gaugeFairRow : OpenClaim := { program := "ytpjefioopbnolaa", sum := "4a4a67623d0d88ca93bdcbb86c81197ad0e17b90c2027c9bcbd539f20fe39384", func := "padlock/padlocklaw30.GaugeFair", spec := "gaugeFair", inPlace := ["math.Float64bits", "math.Float64frombits", "math.archMax"], apart := false }
def GaugeFairSaid : Prop := gaugeFairRow.holds Try.pinned (OpenSpec.ofChange gaugeFairSpec)

/-- ITS FALSE NEIGHBOUR: 'it returns false'. Refute it at one input. -/
def gaugeFairWrong : ChangeSpec := { name := "gaugeFair", fn := fun _ => fun
  | [d1, d2] => { results := [.lit (.bool false)], args := [d1, d2] }
  | _ => none }
def GaugeFairWrongFalsely : Prop := gaugeFairRow.holds Try.pinned (OpenSpec.ofChange gaugeFairWrong)

/-- 'padlocklaw30.GaugeGrades': WHATEVER THE INPUT: true; the input reads as it did. -/
def gaugeGradesSpec : ChangeSpec := { name := "gaugeGrades", fn := fun _ => fun
  | [d1, d2] => { results := [.lit (.bool true)], args := [d1, d2] }
  | _ => none }
def gaugeGradesRow : OpenClaim := { program := "ytpjefioopbnolaa", sum := "4a4a67623d0d88ca93bdcbb86c81197ad0e17b90c2027c9bcbd539f20fe39384", func := "padlock/padlocklaw30.GaugeGrades", spec := "gaugeGrades", inPlace := ["math.Float64frombits", "math.Float64bits", "math.archMax"], apart := false }
def GaugeGradesSaid : Prop := gaugeGradesRow.holds Try.pinned (OpenSpec.ofChange gaugeGradesSpec)

/-- ITS FALSE NEIGHBOUR: 'it returns false'. Refute it at one input. -/
def gaugeGradesWrong : ChangeSpec := { name := "gaugeGrades", fn := fun _ => fun
  | [d1, d2] => { results := [.lit (.bool false)], args := [d1, d2] }
  | _ => none }
def GaugeGradesWrongFalsely : Prop := gaugeGradesRow.holds Try.pinned (OpenSpec.ofChange gaugeGradesWrong)

/-- 'padlocklaw30.GaugeWaits': WHATEVER THE INPUT: true; the input reads as it did. -/
def gaugeWaitsSpec : ChangeSpec := { name := "gaugeWaits", fn := fun _ => fun
  | [d1, d2] => { results := [.lit (.bool true)], args := [d1, d2] }
  | _ => none }
def gaugeWaitsRow : OpenClaim := { program := "ytpjefioopbnolaa", sum := "4a4a67623d0d88ca93bdcbb86c81197ad0e17b90c2027c9bcbd539f20fe39384", func := "padlock/padlocklaw30.GaugeWaits", spec := "gaugeWaits", inPlace := ["math.Float64bits", "math.Float64frombits", "math.archMax"], apart := false }
def GaugeWaitsSaid : Prop := gaugeWaitsRow.holds Try.pinned (OpenSpec.ofChange gaugeWaitsSpec)

/-- ITS FALSE NEIGHBOUR: 'it returns false'. Refute it at one input. -/
def gaugeWaitsWrong : ChangeSpec := { name := "gaugeWaits", fn := fun _ => fun
  | [d1, d2] => { results := [.lit (.bool false)], args := [d1, d2] }
  | _ => none }
def GaugeWaitsWrongFalsely : Prop := gaugeWaitsRow.holds Try.pinned (OpenSpec.ofChange gaugeWaitsWrong)

/- THE SECOND FORM. 'bulk': how many values and letters a reading holds, each counted each time it is reached (what is shared counts as often as it is met; a slice's spare places count too). A statement '..UptoSaid' is the law's where the arguments, and the package variables that the reading takes, are together of bulk at most 1048576: NARROWER than '..Said'. Prove '..Said' where nothing that the law and all that it calls make is longer than what came in: it says more and counts as full. Else prove '..UptoSaid'. A law counts once. -/
mutual
def uptoBulk {H : Type} : DataW H → Nat
  | .lit (.string bytes) => bytes.length + 1
  | .lit _ => 1
  | .nil => 1
  | .ptr d => uptoBulk d + 1
  | .slice elems spare => uptoBulkAll elems + uptoBulkAll spare + 1
  | .agg parts => uptoBulkAll parts + 1
  | .iface _ d => uptoBulk d + 1
  | .map entries => uptoBulkEntries entries + 1
  | .held _ => 1
def uptoBulkAll {H : Type} : List (DataW H) → Nat
  | [] => 0
  | d :: r => uptoBulk d + uptoBulkAll r
def uptoBulkEntries {H : Type} : List (Lit × DataW H) → Nat
  | [] => 0
  | x :: r => uptoBulkEntry x + uptoBulkEntries r
def uptoBulkEntry {H : Type} : Lit × DataW H → Nat
  | (.string bytes, d) => bytes.length + uptoBulk d + 1
  | (_, d) => uptoBulk d + 1
 end
def uptoSmall : (H : Type) → List (DataW H) → Bool := fun _ ds => decide (uptoBulkAll ds ≤ 1048576)
def OpenSpec.upto (s : _root_.Go.ChangeSpec) : _root_.Go.OpenSpec := { _root_.Go.OpenSpec.ofChange s with cond := some uptoSmall }

/-- 'padlocklaw30.GaugeAll', WHERE WHAT IT READS IS OF BULK AT MOST 1048576: true; the input reads as it did. -/
def gaugeAllUptoRow : OpenClaim := { program := "ytpjefioopbnolaa", sum := "4a4a67623d0d88ca93bdcbb86c81197ad0e17b90c2027c9bcbd539f20fe39384", func := "padlock/padlocklaw30.GaugeAll", spec := "gaugeAll", inPlace := ["math.Float64bits", "math.Float64frombits", "math.archMax"], apart := false, narrowed := true }
def GaugeAllUptoSaid : Prop := gaugeAllUptoRow.holds Try.pinned (OpenSpec.upto gaugeAllSpec)

/-- 'padlocklaw30.GaugeMeans', WHERE WHAT IT READS IS OF BULK AT MOST 1048576: true; the input reads as it did. -/
def gaugeMeansUptoRow : OpenClaim := { program := "ytpjefioopbnolaa", sum := "4a4a67623d0d88ca93bdcbb86c81197ad0e17b90c2027c9bcbd539f20fe39384", func := "padlock/padlocklaw30.GaugeMeans", spec := "gaugeMeans", inPlace := ["math.Float64frombits", "math.archMax", "math.Float64bits"], apart := false, narrowed := true }
def GaugeMeansUptoSaid : Prop := gaugeMeansUptoRow.holds Try.pinned (OpenSpec.upto gaugeMeansSpec)

/-- 'padlocklaw30.GaugeFair', WHERE WHAT IT READS IS OF BULK AT MOST 1048576: true; the input reads as it did. -/
def gaugeFairUptoRow : OpenClaim := { program := "ytpjefioopbnolaa", sum := "4a4a67623d0d88ca93bdcbb86c81197ad0e17b90c2027c9bcbd539f20fe39384", func := "padlock/padlocklaw30.GaugeFair", spec := "gaugeFair", inPlace := ["math.Float64bits", "math.Float64frombits", "math.archMax"], apart := false, narrowed := true }
def GaugeFairUptoSaid : Prop := gaugeFairUptoRow.holds Try.pinned (OpenSpec.upto gaugeFairSpec)

/-- 'padlocklaw30.GaugeGrades', WHERE WHAT IT READS IS OF BULK AT MOST 1048576: true; the input reads as it did. -/
def gaugeGradesUptoRow : OpenClaim := { program := "ytpjefioopbnolaa", sum := "4a4a67623d0d88ca93bdcbb86c81197ad0e17b90c2027c9bcbd539f20fe39384", func := "padlock/padlocklaw30.GaugeGrades", spec := "gaugeGrades", inPlace := ["math.Float64frombits", "math.Float64bits", "math.archMax"], apart := false, narrowed := true }
def GaugeGradesUptoSaid : Prop := gaugeGradesUptoRow.holds Try.pinned (OpenSpec.upto gaugeGradesSpec)

/-- 'padlocklaw30.GaugeWaits', WHERE WHAT IT READS IS OF BULK AT MOST 1048576: true; the input reads as it did. -/
def gaugeWaitsUptoRow : OpenClaim := { program := "ytpjefioopbnolaa", sum := "4a4a67623d0d88ca93bdcbb86c81197ad0e17b90c2027c9bcbd539f20fe39384", func := "padlock/padlocklaw30.GaugeWaits", spec := "gaugeWaits", inPlace := ["math.Float64bits", "math.Float64frombits", "math.archMax"], apart := false, narrowed := true }
def GaugeWaitsUptoSaid : Prop := gaugeWaitsUptoRow.holds Try.pinned (OpenSpec.upto gaugeWaitsSpec)

end Rows
end Go.Proofs.Ytpjefioopbnolaa
