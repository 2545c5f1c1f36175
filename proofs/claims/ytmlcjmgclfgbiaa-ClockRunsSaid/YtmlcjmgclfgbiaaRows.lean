/-
  No cell of these rows narrows 'for every input' (looked for: loops, veiled, ifaces, maps, wideKeys, modest, calm, conditions, laid).
  DERIVED. THE GIVEN ROWS OF THIS SEAT. 11 by the template 'for every input the law returns true; each argument reads behind the call as it read before'; 0 by the template 'total and deterministic' (their statements: YtmlcjmgclfgbiaaTotals.lean).
  GIVEN WITH THE SEED: the statements are not yours to turn. If you find one false, say at which input.
  Laid BY PROGRAM, IN A SANDBOX (cutbox-rows.mjs): the forced cells as the released guide's own fill.sh prints them over the translation 084eadef79777610… (all of the seat's roots in one cut). By AI agents, Wed Nov 11 2026. No macro, syntax, notation, axiom, sorry.
-/
import Derived.Test.YtmlcjmgclfgbiaaChecked
import GoSem.Claim
import GoSem.ClaimJoined
import GoSem.ClaimMapViews
import Derived.JoinedTies
import Derived.KernelRfl
namespace Go.Proofs.Ytmlcjmgclfgbiaa
/- THE CELL 'sum', in the pinned program and in every row, IS THE sha256 OF THE DUMP (.gsa) THAT YtmlcjmgclfgbiaaProg.lean LOADS. Nothing in Lean hashes anything: it is a label: what it is worth is what the hold of that sum in a sandbox is worth. -/
noncomputable def Try.pinned : Pinned := { name := "ytmlcjmgclfgbiaa", sum := "084eadef797776109d2dec1ae9cd4d2e9a568fae27f79b476e3f93242611e507", checked := Try.checked }
namespace Rows
def none {H : Type} : Left H := { results := [], args := [] }

/-- 'padlocklaw2.RateAll': WHATEVER THE INPUT: true; the input reads as it did. -/
def rateAllSpec : ChangeSpec := { name := "rateAll", fn := fun _ => fun
  | [d1, d2, d3, d4] => { results := [.lit (.bool true)], args := [d1, d2, d3, d4] }
  | _ => none }
def rateAllRow : OpenClaim := { program := "ytmlcjmgclfgbiaa", sum := "084eadef797776109d2dec1ae9cd4d2e9a568fae27f79b476e3f93242611e507", func := "padlock/padlocklaw2.RateAll", spec := "rateAll", inPlace := ["math.Float64frombits", "math.archFloor", "math.Float64bits", "math.archTrunc", "math.archMax"], apart := false }
def RateAllSaid : Prop := rateAllRow.holds Try.pinned (OpenSpec.ofChange rateAllSpec)

/-- ITS FALSE NEIGHBOUR: 'it returns false'. Refute it at one input. -/
def rateAllWrong : ChangeSpec := { name := "rateAll", fn := fun _ => fun
  | [d1, d2, d3, d4] => { results := [.lit (.bool false)], args := [d1, d2, d3, d4] }
  | _ => none }
def RateAllWrongFalsely : Prop := rateAllRow.holds Try.pinned (OpenSpec.ofChange rateAllWrong)

/-- 'padlocklaw2.RateFars': WHATEVER THE INPUT: true; the input reads as it did. -/
def rateFarsSpec : ChangeSpec := { name := "rateFars", fn := fun _ => fun
  | [d] => { results := [.lit (.bool true)], args := [d] }
  | _ => none }
def rateFarsRow : OpenClaim := { program := "ytmlcjmgclfgbiaa", sum := "084eadef797776109d2dec1ae9cd4d2e9a568fae27f79b476e3f93242611e507", func := "padlock/padlocklaw2.RateFars", spec := "rateFars", inPlace := ["math.archFloor", "math.Float64bits", "math.Float64frombits", "math.archTrunc", "math.archMax"], apart := false }
def RateFarsSaid : Prop := rateFarsRow.holds Try.pinned (OpenSpec.ofChange rateFarsSpec)

/-- ITS FALSE NEIGHBOUR: 'it returns false'. Refute it at one input. -/
def rateFarsWrong : ChangeSpec := { name := "rateFars", fn := fun _ => fun
  | [d] => { results := [.lit (.bool false)], args := [d] }
  | _ => none }
def RateFarsWrongFalsely : Prop := rateFarsRow.holds Try.pinned (OpenSpec.ofChange rateFarsWrong)

/-- 'padlocklaw2.RateGrows': WHATEVER THE INPUT: true; the input reads as it did. -/
def rateGrowsSpec : ChangeSpec := { name := "rateGrows", fn := fun _ => fun
  | [d1, d2, d3, d4] => { results := [.lit (.bool true)], args := [d1, d2, d3, d4] }
  | _ => none }
def rateGrowsRow : OpenClaim := { program := "ytmlcjmgclfgbiaa", sum := "084eadef797776109d2dec1ae9cd4d2e9a568fae27f79b476e3f93242611e507", func := "padlock/padlocklaw2.RateGrows", spec := "rateGrows", inPlace := ["math.Float64frombits", "math.archFloor", "math.Float64bits", "math.archTrunc", "math.archMax"], apart := false }
def RateGrowsSaid : Prop := rateGrowsRow.holds Try.pinned (OpenSpec.ofChange rateGrowsSpec)

/-- ITS FALSE NEIGHBOUR: 'it returns false'. Refute it at one input. -/
def rateGrowsWrong : ChangeSpec := { name := "rateGrows", fn := fun _ => fun
  | [d1, d2, d3, d4] => { results := [.lit (.bool false)], args := [d1, d2, d3, d4] }
  | _ => none }
def RateGrowsWrongFalsely : Prop := rateGrowsRow.holds Try.pinned (OpenSpec.ofChange rateGrowsWrong)

/-- 'padlocklaw2.RateClean': WHATEVER THE INPUT: true; the input reads as it did. -/
def rateCleanSpec : ChangeSpec := { name := "rateClean", fn := fun _ => fun
  | [d1, d2] => { results := [.lit (.bool true)], args := [d1, d2] }
  | _ => none }
def rateCleanRow : OpenClaim := { program := "ytmlcjmgclfgbiaa", sum := "084eadef797776109d2dec1ae9cd4d2e9a568fae27f79b476e3f93242611e507", func := "padlock/padlocklaw2.RateClean", spec := "rateClean", inPlace := ["math.Float64frombits", "math.Float64bits", "math.archFloor", "math.archTrunc", "math.archMax"], apart := false }
def RateCleanSaid : Prop := rateCleanRow.holds Try.pinned (OpenSpec.ofChange rateCleanSpec)

/-- ITS FALSE NEIGHBOUR: 'it returns false'. Refute it at one input. -/
def rateCleanWrong : ChangeSpec := { name := "rateClean", fn := fun _ => fun
  | [d1, d2] => { results := [.lit (.bool false)], args := [d1, d2] }
  | _ => none }
def RateCleanWrongFalsely : Prop := rateCleanRow.holds Try.pinned (OpenSpec.ofChange rateCleanWrong)

/-- 'padlocklaw2.RateWithin': WHATEVER THE INPUT: true; the input reads as it did. -/
def rateWithinSpec : ChangeSpec := { name := "rateWithin", fn := fun _ => fun
  | [d1, d2, d3, d4] => { results := [.lit (.bool true)], args := [d1, d2, d3, d4] }
  | _ => none }
def rateWithinRow : OpenClaim := { program := "ytmlcjmgclfgbiaa", sum := "084eadef797776109d2dec1ae9cd4d2e9a568fae27f79b476e3f93242611e507", func := "padlock/padlocklaw2.RateWithin", spec := "rateWithin", inPlace := ["math.archFloor", "math.Float64bits", "math.Float64frombits", "math.archTrunc", "math.archMax"], apart := false }
def RateWithinSaid : Prop := rateWithinRow.holds Try.pinned (OpenSpec.ofChange rateWithinSpec)

/-- ITS FALSE NEIGHBOUR: 'it returns false'. Refute it at one input. -/
def rateWithinWrong : ChangeSpec := { name := "rateWithin", fn := fun _ => fun
  | [d1, d2, d3, d4] => { results := [.lit (.bool false)], args := [d1, d2, d3, d4] }
  | _ => none }
def RateWithinWrongFalsely : Prop := rateWithinRow.holds Try.pinned (OpenSpec.ofChange rateWithinWrong)

/-- 'padlocklaw2.RateOf': WHATEVER THE INPUT: true; the input reads as it did. -/
def rateOfSpec : ChangeSpec := { name := "rateOf", fn := fun _ => fun
  | [d1, d2, d3, d4] => { results := [.lit (.bool true)], args := [d1, d2, d3, d4] }
  | _ => none }
def rateOfRow : OpenClaim := { program := "ytmlcjmgclfgbiaa", sum := "084eadef797776109d2dec1ae9cd4d2e9a568fae27f79b476e3f93242611e507", func := "padlock/padlocklaw2.RateOf", spec := "rateOf", inPlace := ["math.archFloor", "math.Float64bits", "math.Float64frombits", "math.archTrunc", "math.archMax"], apart := false }
def RateOfSaid : Prop := rateOfRow.holds Try.pinned (OpenSpec.ofChange rateOfSpec)

/-- ITS FALSE NEIGHBOUR: 'it returns false'. Refute it at one input. -/
def rateOfWrong : ChangeSpec := { name := "rateOf", fn := fun _ => fun
  | [d1, d2, d3, d4] => { results := [.lit (.bool false)], args := [d1, d2, d3, d4] }
  | _ => none }
def RateOfWrongFalsely : Prop := rateOfRow.holds Try.pinned (OpenSpec.ofChange rateOfWrong)

/-- 'padlocklaw3.ClockRuns': WHATEVER THE INPUT: true; the input reads as it did. -/
def clockRunsSpec : ChangeSpec := { name := "clockRuns", fn := fun _ => fun
  | [d1, d2] => { results := [.lit (.bool true)], args := [d1, d2] }
  | _ => none }
def clockRunsRow : OpenClaim := { program := "ytmlcjmgclfgbiaa", sum := "084eadef797776109d2dec1ae9cd4d2e9a568fae27f79b476e3f93242611e507", func := "padlock/padlocklaw3.ClockRuns", spec := "clockRuns", inPlace := ["math.archFloor", "math.Float64bits", "math.Float64frombits", "math.archTrunc"], apart := false }
def ClockRunsSaid : Prop := clockRunsRow.holds Try.pinned (OpenSpec.ofChange clockRunsSpec)

/-- ITS FALSE NEIGHBOUR: 'it returns false'. Refute it at one input. -/
def clockRunsWrong : ChangeSpec := { name := "clockRuns", fn := fun _ => fun
  | [d1, d2] => { results := [.lit (.bool false)], args := [d1, d2] }
  | _ => none }
def ClockRunsWrongFalsely : Prop := clockRunsRow.holds Try.pinned (OpenSpec.ofChange clockRunsWrong)

/-- 'padlocklaw3.ClockApart': WHATEVER THE INPUT: true; the input reads as it did. -/
def clockApartSpec : ChangeSpec := { name := "clockApart", fn := fun _ => fun
  | [d1, d2, d3, d4] => { results := [.lit (.bool true)], args := [d1, d2, d3, d4] }
  | _ => none }
def clockApartRow : OpenClaim := { program := "ytmlcjmgclfgbiaa", sum := "084eadef797776109d2dec1ae9cd4d2e9a568fae27f79b476e3f93242611e507", func := "padlock/padlocklaw3.ClockApart", spec := "clockApart", inPlace := ["math.archFloor", "math.Float64bits", "math.Float64frombits", "math.archTrunc"], apart := false }
def ClockApartSaid : Prop := clockApartRow.holds Try.pinned (OpenSpec.ofChange clockApartSpec)

/-- ITS FALSE NEIGHBOUR: 'it returns false'. Refute it at one input. -/
def clockApartWrong : ChangeSpec := { name := "clockApart", fn := fun _ => fun
  | [d1, d2, d3, d4] => { results := [.lit (.bool false)], args := [d1, d2, d3, d4] }
  | _ => none }
def ClockApartWrongFalsely : Prop := clockApartRow.holds Try.pinned (OpenSpec.ofChange clockApartWrong)

/-- 'padlocklaw3.ClockNone': WHATEVER THE INPUT: true; the input reads as it did. -/
def clockNoneSpec : ChangeSpec := { name := "clockNone", fn := fun _ => fun
  | [d1, d2, d3] => { results := [.lit (.bool true)], args := [d1, d2, d3] }
  | _ => none }
def clockNoneRow : OpenClaim := { program := "ytmlcjmgclfgbiaa", sum := "084eadef797776109d2dec1ae9cd4d2e9a568fae27f79b476e3f93242611e507", func := "padlock/padlocklaw3.ClockNone", spec := "clockNone", inPlace := ["math.archFloor", "math.Float64bits", "math.Float64frombits", "math.archTrunc"], apart := false }
def ClockNoneSaid : Prop := clockNoneRow.holds Try.pinned (OpenSpec.ofChange clockNoneSpec)

/-- ITS FALSE NEIGHBOUR: 'it returns false'. Refute it at one input. -/
def clockNoneWrong : ChangeSpec := { name := "clockNone", fn := fun _ => fun
  | [d1, d2, d3] => { results := [.lit (.bool false)], args := [d1, d2, d3] }
  | _ => none }
def ClockNoneWrongFalsely : Prop := clockNoneRow.holds Try.pinned (OpenSpec.ofChange clockNoneWrong)

/-- 'padlocklaw3.ClockDrift': WHATEVER THE INPUT: true; the input reads as it did. -/
def clockDriftSpec : ChangeSpec := { name := "clockDrift", fn := fun _ => fun
  | [d1, d2, d3, d4] => { results := [.lit (.bool true)], args := [d1, d2, d3, d4] }
  | _ => none }
def clockDriftRow : OpenClaim := { program := "ytmlcjmgclfgbiaa", sum := "084eadef797776109d2dec1ae9cd4d2e9a568fae27f79b476e3f93242611e507", func := "padlock/padlocklaw3.ClockDrift", spec := "clockDrift", inPlace := ["math.archFloor", "math.Float64bits", "math.Float64frombits", "math.archTrunc"], apart := false }
def ClockDriftSaid : Prop := clockDriftRow.holds Try.pinned (OpenSpec.ofChange clockDriftSpec)

/-- ITS FALSE NEIGHBOUR: 'it returns false'. Refute it at one input. -/
def clockDriftWrong : ChangeSpec := { name := "clockDrift", fn := fun _ => fun
  | [d1, d2, d3, d4] => { results := [.lit (.bool false)], args := [d1, d2, d3, d4] }
  | _ => none }
def ClockDriftWrongFalsely : Prop := clockDriftRow.holds Try.pinned (OpenSpec.ofChange clockDriftWrong)

/-- 'padlocklaw3.ClockWorst': WHATEVER THE INPUT: true; the input reads as it did. -/
def clockWorstSpec : ChangeSpec := { name := "clockWorst", fn := fun _ => fun
  | [d1, d2] => { results := [.lit (.bool true)], args := [d1, d2] }
  | _ => none }
def clockWorstRow : OpenClaim := { program := "ytmlcjmgclfgbiaa", sum := "084eadef797776109d2dec1ae9cd4d2e9a568fae27f79b476e3f93242611e507", func := "padlock/padlocklaw3.ClockWorst", spec := "clockWorst", inPlace := ["math.archFloor", "math.Float64bits", "math.Float64frombits", "math.archTrunc"], apart := false }
def ClockWorstSaid : Prop := clockWorstRow.holds Try.pinned (OpenSpec.ofChange clockWorstSpec)

/-- ITS FALSE NEIGHBOUR: 'it returns false'. Refute it at one input. -/
def clockWorstWrong : ChangeSpec := { name := "clockWorst", fn := fun _ => fun
  | [d1, d2] => { results := [.lit (.bool false)], args := [d1, d2] }
  | _ => none }
def ClockWorstWrongFalsely : Prop := clockWorstRow.holds Try.pinned (OpenSpec.ofChange clockWorstWrong)

/- THE SECOND FORM. 'bulk': how many values and letters a reading holds, each counted each time it is reached (what is shared counts as often as it is met; a slice's spare places count too). A statement '..UptoSaid' is the law's where the arguments, and the package variables that the reading takes, are together of bulk at most 1048576: NARROWER than '..Said'. Prove '..Said' where nothing that the law and all that it calls make is longer than what came in: it says more and counts as full. Else prove '..UptoSaid'. A law counts once. -/
mutual
def uptoBulk {H : Type} : DataW H → Nat
  | .lit (.string bytes) => bytes.length + 1
  | .lit _ => 1
  | .nil => 1
  | .ptr d => uptoBulk d + 1
  | .slice elems spare => uptoBulkAll elems + uptoBulkAll spare + 1
  | .agg parts => uptoBulkAll parts + 1
  | .iface _ d => uptoBulk d + 1
  | .map entries => uptoBulkEntries entries + 1
  | .held _ => 1
def uptoBulkAll {H : Type} : List (DataW H) → Nat
  | [] => 0
  | d :: r => uptoBulk d + uptoBulkAll r
def uptoBulkEntries {H : Type} : List (Lit × DataW H) → Nat
  | [] => 0
  | x :: r => uptoBulkEntry x + uptoBulkEntries r
def uptoBulkEntry {H : Type} : Lit × DataW H → Nat
  | (.string bytes, d) => bytes.length + uptoBulk d + 1
  | (_, d) => uptoBulk d + 1
 end
def uptoSmall : (H : Type) → List (DataW H) → Bool := fun _ ds => decide (uptoBulkAll ds ≤ 1048576)
def OpenSpec.upto (s : _root_.Go.ChangeSpec) : _root_.Go.OpenSpec := { _root_.Go.OpenSpec.ofChange s with cond := some uptoSmall }

/-- 'padlocklaw2.RateAll', WHERE WHAT IT READS IS OF BULK AT MOST 1048576: true; the input reads as it did. -/
def rateAllUptoRow : OpenClaim := { program := "ytmlcjmgclfgbiaa", sum := "084eadef797776109d2dec1ae9cd4d2e9a568fae27f79b476e3f93242611e507", func := "padlock/padlocklaw2.RateAll", spec := "rateAll", inPlace := ["math.Float64frombits", "math.archFloor", "math.Float64bits", "math.archTrunc", "math.archMax"], apart := false, narrowed := true }
def RateAllUptoSaid : Prop := rateAllUptoRow.holds Try.pinned (OpenSpec.upto rateAllSpec)

/-- 'padlocklaw2.RateFars', WHERE WHAT IT READS IS OF BULK AT MOST 1048576: true; the input reads as it did. -/
def rateFarsUptoRow : OpenClaim := { program := "ytmlcjmgclfgbiaa", sum := "084eadef797776109d2dec1ae9cd4d2e9a568fae27f79b476e3f93242611e507", func := "padlock/padlocklaw2.RateFars", spec := "rateFars", inPlace := ["math.archFloor", "math.Float64bits", "math.Float64frombits", "math.archTrunc", "math.archMax"], apart := false, narrowed := true }
def RateFarsUptoSaid : Prop := rateFarsUptoRow.holds Try.pinned (OpenSpec.upto rateFarsSpec)

/-- 'padlocklaw2.RateGrows', WHERE WHAT IT READS IS OF BULK AT MOST 1048576: true; the input reads as it did. -/
def rateGrowsUptoRow : OpenClaim := { program := "ytmlcjmgclfgbiaa", sum := "084eadef797776109d2dec1ae9cd4d2e9a568fae27f79b476e3f93242611e507", func := "padlock/padlocklaw2.RateGrows", spec := "rateGrows", inPlace := ["math.Float64frombits", "math.archFloor", "math.Float64bits", "math.archTrunc", "math.archMax"], apart := false, narrowed := true }
def RateGrowsUptoSaid : Prop := rateGrowsUptoRow.holds Try.pinned (OpenSpec.upto rateGrowsSpec)

/-- 'padlocklaw2.RateClean', WHERE WHAT IT READS IS OF BULK AT MOST 1048576: true; the input reads as it did. -/
def rateCleanUptoRow : OpenClaim := { program := "ytmlcjmgclfgbiaa", sum := "084eadef797776109d2dec1ae9cd4d2e9a568fae27f79b476e3f93242611e507", func := "padlock/padlocklaw2.RateClean", spec := "rateClean", inPlace := ["math.Float64frombits", "math.Float64bits", "math.archFloor", "math.archTrunc", "math.archMax"], apart := false, narrowed := true }
def RateCleanUptoSaid : Prop := rateCleanUptoRow.holds Try.pinned (OpenSpec.upto rateCleanSpec)

/-- 'padlocklaw2.RateWithin', WHERE WHAT IT READS IS OF BULK AT MOST 1048576: true; the input reads as it did. -/
def rateWithinUptoRow : OpenClaim := { program := "ytmlcjmgclfgbiaa", sum := "084eadef797776109d2dec1ae9cd4d2e9a568fae27f79b476e3f93242611e507", func := "padlock/padlocklaw2.RateWithin", spec := "rateWithin", inPlace := ["math.archFloor", "math.Float64bits", "math.Float64frombits", "math.archTrunc", "math.archMax"], apart := false, narrowed := true }
def RateWithinUptoSaid : Prop := rateWithinUptoRow.holds Try.pinned (OpenSpec.upto rateWithinSpec)

/-- 'padlocklaw2.RateOf', WHERE WHAT IT READS IS OF BULK AT MOST 1048576: true; the input reads as it did. -/
def rateOfUptoRow : OpenClaim := { program := "ytmlcjmgclfgbiaa", sum := "084eadef797776109d2dec1ae9cd4d2e9a568fae27f79b476e3f93242611e507", func := "padlock/padlocklaw2.RateOf", spec := "rateOf", inPlace := ["math.archFloor", "math.Float64bits", "math.Float64frombits", "math.archTrunc", "math.archMax"], apart := false, narrowed := true }
def RateOfUptoSaid : Prop := rateOfUptoRow.holds Try.pinned (OpenSpec.upto rateOfSpec)

/-- 'padlocklaw3.ClockRuns', WHERE WHAT IT READS IS OF BULK AT MOST 1048576: true; the input reads as it did. -/
def clockRunsUptoRow : OpenClaim := { program := "ytmlcjmgclfgbiaa", sum := "084eadef797776109d2dec1ae9cd4d2e9a568fae27f79b476e3f93242611e507", func := "padlock/padlocklaw3.ClockRuns", spec := "clockRuns", inPlace := ["math.archFloor", "math.Float64bits", "math.Float64frombits", "math.archTrunc"], apart := false, narrowed := true }
def ClockRunsUptoSaid : Prop := clockRunsUptoRow.holds Try.pinned (OpenSpec.upto clockRunsSpec)

/-- 'padlocklaw3.ClockApart', WHERE WHAT IT READS IS OF BULK AT MOST 1048576: true; the input reads as it did. -/
def clockApartUptoRow : OpenClaim := { program := "ytmlcjmgclfgbiaa", sum := "084eadef797776109d2dec1ae9cd4d2e9a568fae27f79b476e3f93242611e507", func := "padlock/padlocklaw3.ClockApart", spec := "clockApart", inPlace := ["math.archFloor", "math.Float64bits", "math.Float64frombits", "math.archTrunc"], apart := false, narrowed := true }
def ClockApartUptoSaid : Prop := clockApartUptoRow.holds Try.pinned (OpenSpec.upto clockApartSpec)

/-- 'padlocklaw3.ClockNone', WHERE WHAT IT READS IS OF BULK AT MOST 1048576: true; the input reads as it did. -/
def clockNoneUptoRow : OpenClaim := { program := "ytmlcjmgclfgbiaa", sum := "084eadef797776109d2dec1ae9cd4d2e9a568fae27f79b476e3f93242611e507", func := "padlock/padlocklaw3.ClockNone", spec := "clockNone", inPlace := ["math.archFloor", "math.Float64bits", "math.Float64frombits", "math.archTrunc"], apart := false, narrowed := true }
def ClockNoneUptoSaid : Prop := clockNoneUptoRow.holds Try.pinned (OpenSpec.upto clockNoneSpec)

/-- 'padlocklaw3.ClockDrift', WHERE WHAT IT READS IS OF BULK AT MOST 1048576: true; the input reads as it did. -/
def clockDriftUptoRow : OpenClaim := { program := "ytmlcjmgclfgbiaa", sum := "084eadef797776109d2dec1ae9cd4d2e9a568fae27f79b476e3f93242611e507", func := "padlock/padlocklaw3.ClockDrift", spec := "clockDrift", inPlace := ["math.archFloor", "math.Float64bits", "math.Float64frombits", "math.archTrunc"], apart := false, narrowed := true }
def ClockDriftUptoSaid : Prop := clockDriftUptoRow.holds Try.pinned (OpenSpec.upto clockDriftSpec)

/-- 'padlocklaw3.ClockWorst', WHERE WHAT IT READS IS OF BULK AT MOST 1048576: true; the input reads as it did. -/
def clockWorstUptoRow : OpenClaim := { program := "ytmlcjmgclfgbiaa", sum := "084eadef797776109d2dec1ae9cd4d2e9a568fae27f79b476e3f93242611e507", func := "padlock/padlocklaw3.ClockWorst", spec := "clockWorst", inPlace := ["math.archFloor", "math.Float64bits", "math.Float64frombits", "math.archTrunc"], apart := false, narrowed := true }
def ClockWorstUptoSaid : Prop := clockWorstUptoRow.holds Try.pinned (OpenSpec.upto clockWorstSpec)

end Rows
end Go.Proofs.Ytmlcjmgclfgbiaa
