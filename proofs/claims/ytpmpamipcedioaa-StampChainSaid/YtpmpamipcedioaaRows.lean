/-
  No cell of these rows narrows 'for every input' (looked for: loops, veiled, ifaces, maps, wideKeys, modest, calm, conditions, laid).
  DERIVED. THE GIVEN ROWS OF THIS SEAT. 8 by the template 'for every input the law returns true; each argument reads behind the call as it read before'; 0 by the template 'total and deterministic' (their statements: YtpmpamipcedioaaTotals.lean).
  GIVEN WITH THE SEED: the statements are not yours to turn. If you find one false, say at which input.
  Laid BY PROGRAM, IN A SANDBOX (cutbox-rows.mjs): the forced cells as the released guide's own fill.sh prints them over the translation db550ddc5321ca5a… (all of the seat's roots in one cut). By AI agents, Wed Nov 11 2026. No macro, syntax, notation, axiom, sorry.
-/
import Derived.Test.YtpmpamipcedioaaChecked
import GoSem.Claim
import GoSem.ClaimJoined
import GoSem.ClaimMapViews
import Derived.JoinedTies
import Derived.KernelRfl
namespace Go.Proofs.Ytpmpamipcedioaa
/- THE CELL 'sum', in the pinned program and in every row, IS THE sha256 OF THE DUMP (.gsa) THAT YtpmpamipcedioaaProg.lean LOADS. Nothing in Lean hashes anything: it is a label: what it is worth is what the hold of that sum in a sandbox is worth. -/
noncomputable def Try.pinned : Pinned := { name := "ytpmpamipcedioaa", sum := "db550ddc5321ca5a40b29cff23732a45f59aecd5921867ca7fbe7c8f5a50b4a0", checked := Try.checked }
namespace Rows
def none {H : Type} : Left H := { results := [], args := [] }

/-- 'padlocklaw20.StampRuns': WHATEVER THE INPUT: true; the input reads as it did. -/
def stampRunsSpec : ChangeSpec := { name := "stampRuns", fn := fun _ => fun
  | [d1, d2, d3] => { results := [.lit (.bool true)], args := [d1, d2, d3] }
  | _ => none }
def stampRunsRow : OpenClaim := { program := "ytpmpamipcedioaa", sum := "db550ddc5321ca5a40b29cff23732a45f59aecd5921867ca7fbe7c8f5a50b4a0", func := "padlock/padlocklaw20.StampRuns", spec := "stampRuns", apart := false }
def StampRunsSaid : Prop := stampRunsRow.holds Try.pinned (OpenSpec.ofChange stampRunsSpec)

/-- ITS FALSE NEIGHBOUR: 'it returns false'. Refute it at one input. -/
def stampRunsWrong : ChangeSpec := { name := "stampRuns", fn := fun _ => fun
  | [d1, d2, d3] => { results := [.lit (.bool false)], args := [d1, d2, d3] }
  | _ => none }
def StampRunsWrongFalsely : Prop := stampRunsRow.holds Try.pinned (OpenSpec.ofChange stampRunsWrong)

/-- 'padlocklaw20.StampRises': WHATEVER THE INPUT: true; the input reads as it did. -/
def stampRisesSpec : ChangeSpec := { name := "stampRises", fn := fun _ => fun
  | [d1, d2, d3] => { results := [.lit (.bool true)], args := [d1, d2, d3] }
  | _ => none }
def stampRisesRow : OpenClaim := { program := "ytpmpamipcedioaa", sum := "db550ddc5321ca5a40b29cff23732a45f59aecd5921867ca7fbe7c8f5a50b4a0", func := "padlock/padlocklaw20.StampRises", spec := "stampRises", apart := false }
def StampRisesSaid : Prop := stampRisesRow.holds Try.pinned (OpenSpec.ofChange stampRisesSpec)

/-- ITS FALSE NEIGHBOUR: 'it returns false'. Refute it at one input. -/
def stampRisesWrong : ChangeSpec := { name := "stampRises", fn := fun _ => fun
  | [d1, d2, d3] => { results := [.lit (.bool false)], args := [d1, d2, d3] }
  | _ => none }
def StampRisesWrongFalsely : Prop := stampRisesRow.holds Try.pinned (OpenSpec.ofChange stampRisesWrong)

/-- 'padlocklaw20.StampEdges': WHATEVER THE INPUT: true; the input reads as it did. -/
def stampEdgesSpec : ChangeSpec := { name := "stampEdges", fn := fun _ => fun
  | [d1, d2, d3] => { results := [.lit (.bool true)], args := [d1, d2, d3] }
  | _ => none }
def stampEdgesRow : OpenClaim := { program := "ytpmpamipcedioaa", sum := "db550ddc5321ca5a40b29cff23732a45f59aecd5921867ca7fbe7c8f5a50b4a0", func := "padlock/padlocklaw20.StampEdges", spec := "stampEdges", apart := false }
def StampEdgesSaid : Prop := stampEdgesRow.holds Try.pinned (OpenSpec.ofChange stampEdgesSpec)

/-- ITS FALSE NEIGHBOUR: 'it returns false'. Refute it at one input. -/
def stampEdgesWrong : ChangeSpec := { name := "stampEdges", fn := fun _ => fun
  | [d1, d2, d3] => { results := [.lit (.bool false)], args := [d1, d2, d3] }
  | _ => none }
def StampEdgesWrongFalsely : Prop := stampEdgesRow.holds Try.pinned (OpenSpec.ofChange stampEdgesWrong)

/-- 'padlocklaw24.GuardAll': WHATEVER THE INPUT: true; the input reads as it did. -/
def guardAllSpec : ChangeSpec := { name := "guardAll", fn := fun _ => fun
  | [d1, d2, d3, d4] => { results := [.lit (.bool true)], args := [d1, d2, d3, d4] }
  | _ => none }
def guardAllRow : OpenClaim := { program := "ytpmpamipcedioaa", sum := "db550ddc5321ca5a40b29cff23732a45f59aecd5921867ca7fbe7c8f5a50b4a0", func := "padlock/padlocklaw24.GuardAll", spec := "guardAll", apart := false }
def GuardAllSaid : Prop := guardAllRow.holds Try.pinned (OpenSpec.ofChange guardAllSpec)

/-- ITS FALSE NEIGHBOUR: 'it returns false'. Refute it at one input. -/
def guardAllWrong : ChangeSpec := { name := "guardAll", fn := fun _ => fun
  | [d1, d2, d3, d4] => { results := [.lit (.bool false)], args := [d1, d2, d3, d4] }
  | _ => none }
def GuardAllWrongFalsely : Prop := guardAllRow.holds Try.pinned (OpenSpec.ofChange guardAllWrong)

/-- 'padlocklaw24.GuardSpan': WHATEVER THE INPUT: true; the input reads as it did. -/
def guardSpanSpec : ChangeSpec := { name := "guardSpan", fn := fun _ => fun
  | [d1, d2, d3, d4] => { results := [.lit (.bool true)], args := [d1, d2, d3, d4] }
  | _ => none }
def guardSpanRow : OpenClaim := { program := "ytpmpamipcedioaa", sum := "db550ddc5321ca5a40b29cff23732a45f59aecd5921867ca7fbe7c8f5a50b4a0", func := "padlock/padlocklaw24.GuardSpan", spec := "guardSpan", apart := false }
def GuardSpanSaid : Prop := guardSpanRow.holds Try.pinned (OpenSpec.ofChange guardSpanSpec)

/-- ITS FALSE NEIGHBOUR: 'it returns false'. Refute it at one input. -/
def guardSpanWrong : ChangeSpec := { name := "guardSpan", fn := fun _ => fun
  | [d1, d2, d3, d4] => { results := [.lit (.bool false)], args := [d1, d2, d3, d4] }
  | _ => none }
def GuardSpanWrongFalsely : Prop := guardSpanRow.holds Try.pinned (OpenSpec.ofChange guardSpanWrong)

/-- 'padlocklaw24.GuardLeft': WHATEVER THE INPUT: true; the input reads as it did. -/
def guardLeftSpec : ChangeSpec := { name := "guardLeft", fn := fun _ => fun
  | [d1, d2, d3, d4, d5] => { results := [.lit (.bool true)], args := [d1, d2, d3, d4, d5] }
  | _ => none }
def guardLeftRow : OpenClaim := { program := "ytpmpamipcedioaa", sum := "db550ddc5321ca5a40b29cff23732a45f59aecd5921867ca7fbe7c8f5a50b4a0", func := "padlock/padlocklaw24.GuardLeft", spec := "guardLeft", apart := false }
def GuardLeftSaid : Prop := guardLeftRow.holds Try.pinned (OpenSpec.ofChange guardLeftSpec)

/-- ITS FALSE NEIGHBOUR: 'it returns false'. Refute it at one input. -/
def guardLeftWrong : ChangeSpec := { name := "guardLeft", fn := fun _ => fun
  | [d1, d2, d3, d4, d5] => { results := [.lit (.bool false)], args := [d1, d2, d3, d4, d5] }
  | _ => none }
def GuardLeftWrongFalsely : Prop := guardLeftRow.holds Try.pinned (OpenSpec.ofChange guardLeftWrong)

/-- 'padlocklaw24.GuardSafe': WHATEVER THE INPUT: true; the input reads as it did. -/
def guardSafeSpec : ChangeSpec := { name := "guardSafe", fn := fun _ => fun
  | [d1, d2, d3, d4] => { results := [.lit (.bool true)], args := [d1, d2, d3, d4] }
  | _ => none }
def guardSafeRow : OpenClaim := { program := "ytpmpamipcedioaa", sum := "db550ddc5321ca5a40b29cff23732a45f59aecd5921867ca7fbe7c8f5a50b4a0", func := "padlock/padlocklaw24.GuardSafe", spec := "guardSafe", apart := false }
def GuardSafeSaid : Prop := guardSafeRow.holds Try.pinned (OpenSpec.ofChange guardSafeSpec)

/-- ITS FALSE NEIGHBOUR: 'it returns false'. Refute it at one input. -/
def guardSafeWrong : ChangeSpec := { name := "guardSafe", fn := fun _ => fun
  | [d1, d2, d3, d4] => { results := [.lit (.bool false)], args := [d1, d2, d3, d4] }
  | _ => none }
def GuardSafeWrongFalsely : Prop := guardSafeRow.holds Try.pinned (OpenSpec.ofChange guardSafeWrong)

/-- 'padlocklaw20.StampChain': WHATEVER THE INPUT: true; the input reads as it did. -/
def stampChainSpec : ChangeSpec := { name := "stampChain", fn := fun _ => fun
  | [d1, d2, d3, d4] => { results := [.lit (.bool true)], args := [d1, d2, d3, d4] }
  | _ => none }
def stampChainRow : OpenClaim := { program := "ytpmpamipcedioaa", sum := "db550ddc5321ca5a40b29cff23732a45f59aecd5921867ca7fbe7c8f5a50b4a0", func := "padlock/padlocklaw20.StampChain", spec := "stampChain", inPlace := ["math.archFloor", "math.Float64bits", "math.Float64frombits", "math.archTrunc"], apart := false }
def StampChainSaid : Prop := stampChainRow.holds Try.pinned (OpenSpec.ofChange stampChainSpec)

/-- ITS FALSE NEIGHBOUR: 'it returns false'. Refute it at one input. -/
def stampChainWrong : ChangeSpec := { name := "stampChain", fn := fun _ => fun
  | [d1, d2, d3, d4] => { results := [.lit (.bool false)], args := [d1, d2, d3, d4] }
  | _ => none }
def StampChainWrongFalsely : Prop := stampChainRow.holds Try.pinned (OpenSpec.ofChange stampChainWrong)

/- THE SECOND FORM. 'bulk': how many values and letters a reading holds, each counted each time it is reached (what is shared counts as often as it is met; a slice's spare places count too). A statement '..UptoSaid' is the law's where the arguments, and the package variables that the reading takes, are together of bulk at most 1048576: NARROWER than '..Said'. Prove '..Said' where nothing that the law and all that it calls make is longer than what came in: it says more and counts as full. Else prove '..UptoSaid'. A law counts once. -/
mutual
def uptoBulk {H : Type} : DataW H → Nat
  | .lit (.string bytes) => bytes.length + 1
  | .lit _ => 1
  | .nil => 1
  | .ptr d => uptoBulk d + 1
  | .slice elems spare => uptoBulkAll elems + uptoBulkAll spare + 1
  | .agg parts => uptoBulkAll parts + 1
  | .iface _ d => uptoBulk d + 1
  | .map entries => uptoBulkEntries entries + 1
  | .held _ => 1
def uptoBulkAll {H : Type} : List (DataW H) → Nat
  | [] => 0
  | d :: r => uptoBulk d + uptoBulkAll r
def uptoBulkEntries {H : Type} : List (Lit × DataW H) → Nat
  | [] => 0
  | x :: r => uptoBulkEntry x + uptoBulkEntries r
def uptoBulkEntry {H : Type} : Lit × DataW H → Nat
  | (.string bytes, d) => bytes.length + uptoBulk d + 1
  | (_, d) => uptoBulk d + 1
 end
def uptoSmall : (H : Type) → List (DataW H) → Bool := fun _ ds => decide (uptoBulkAll ds ≤ 1048576)
def OpenSpec.upto (s : _root_.Go.ChangeSpec) : _root_.Go.OpenSpec := { _root_.Go.OpenSpec.ofChange s with cond := some uptoSmall }

/-- 'padlocklaw20.StampRuns', WHERE WHAT IT READS IS OF BULK AT MOST 1048576: true; the input reads as it did. -/
def stampRunsUptoRow : OpenClaim := { program := "ytpmpamipcedioaa", sum := "db550ddc5321ca5a40b29cff23732a45f59aecd5921867ca7fbe7c8f5a50b4a0", func := "padlock/padlocklaw20.StampRuns", spec := "stampRuns", apart := false, narrowed := true }
def StampRunsUptoSaid : Prop := stampRunsUptoRow.holds Try.pinned (OpenSpec.upto stampRunsSpec)

/-- 'padlocklaw20.StampRises', WHERE WHAT IT READS IS OF BULK AT MOST 1048576: true; the input reads as it did. -/
def stampRisesUptoRow : OpenClaim := { program := "ytpmpamipcedioaa", sum := "db550ddc5321ca5a40b29cff23732a45f59aecd5921867ca7fbe7c8f5a50b4a0", func := "padlock/padlocklaw20.StampRises", spec := "stampRises", apart := false, narrowed := true }
def StampRisesUptoSaid : Prop := stampRisesUptoRow.holds Try.pinned (OpenSpec.upto stampRisesSpec)

/-- 'padlocklaw20.StampEdges', WHERE WHAT IT READS IS OF BULK AT MOST 1048576: true; the input reads as it did. -/
def stampEdgesUptoRow : OpenClaim := { program := "ytpmpamipcedioaa", sum := "db550ddc5321ca5a40b29cff23732a45f59aecd5921867ca7fbe7c8f5a50b4a0", func := "padlock/padlocklaw20.StampEdges", spec := "stampEdges", apart := false, narrowed := true }
def StampEdgesUptoSaid : Prop := stampEdgesUptoRow.holds Try.pinned (OpenSpec.upto stampEdgesSpec)

/-- 'padlocklaw24.GuardAll', WHERE WHAT IT READS IS OF BULK AT MOST 1048576: true; the input reads as it did. -/
def guardAllUptoRow : OpenClaim := { program := "ytpmpamipcedioaa", sum := "db550ddc5321ca5a40b29cff23732a45f59aecd5921867ca7fbe7c8f5a50b4a0", func := "padlock/padlocklaw24.GuardAll", spec := "guardAll", apart := false, narrowed := true }
def GuardAllUptoSaid : Prop := guardAllUptoRow.holds Try.pinned (OpenSpec.upto guardAllSpec)

/-- 'padlocklaw24.GuardSpan', WHERE WHAT IT READS IS OF BULK AT MOST 1048576: true; the input reads as it did. -/
def guardSpanUptoRow : OpenClaim := { program := "ytpmpamipcedioaa", sum := "db550ddc5321ca5a40b29cff23732a45f59aecd5921867ca7fbe7c8f5a50b4a0", func := "padlock/padlocklaw24.GuardSpan", spec := "guardSpan", apart := false, narrowed := true }
def GuardSpanUptoSaid : Prop := guardSpanUptoRow.holds Try.pinned (OpenSpec.upto guardSpanSpec)

/-- 'padlocklaw24.GuardLeft', WHERE WHAT IT READS IS OF BULK AT MOST 1048576: true; the input reads as it did. -/
def guardLeftUptoRow : OpenClaim := { program := "ytpmpamipcedioaa", sum := "db550ddc5321ca5a40b29cff23732a45f59aecd5921867ca7fbe7c8f5a50b4a0", func := "padlock/padlocklaw24.GuardLeft", spec := "guardLeft", apart := false, narrowed := true }
def GuardLeftUptoSaid : Prop := guardLeftUptoRow.holds Try.pinned (OpenSpec.upto guardLeftSpec)

/-- 'padlocklaw24.GuardSafe', WHERE WHAT IT READS IS OF BULK AT MOST 1048576: true; the input reads as it did. -/
def guardSafeUptoRow : OpenClaim := { program := "ytpmpamipcedioaa", sum := "db550ddc5321ca5a40b29cff23732a45f59aecd5921867ca7fbe7c8f5a50b4a0", func := "padlock/padlocklaw24.GuardSafe", spec := "guardSafe", apart := false, narrowed := true }
def GuardSafeUptoSaid : Prop := guardSafeUptoRow.holds Try.pinned (OpenSpec.upto guardSafeSpec)

/-- 'padlocklaw20.StampChain', WHERE WHAT IT READS IS OF BULK AT MOST 1048576: true; the input reads as it did. -/
def stampChainUptoRow : OpenClaim := { program := "ytpmpamipcedioaa", sum := "db550ddc5321ca5a40b29cff23732a45f59aecd5921867ca7fbe7c8f5a50b4a0", func := "padlock/padlocklaw20.StampChain", spec := "stampChain", inPlace := ["math.archFloor", "math.Float64bits", "math.Float64frombits", "math.archTrunc"], apart := false, narrowed := true }
def StampChainUptoSaid : Prop := stampChainUptoRow.holds Try.pinned (OpenSpec.upto stampChainSpec)

end Rows
end Go.Proofs.Ytpmpamipcedioaa
