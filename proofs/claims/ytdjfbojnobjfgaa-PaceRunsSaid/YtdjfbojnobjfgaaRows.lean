/-
  No cell of these rows narrows 'for every input' (looked for: loops, veiled, ifaces, maps, wideKeys, modest, calm, conditions, laid).
  DERIVED. THE GIVEN ROWS OF THIS SEAT. 9 by the template 'for every input the law returns true; each argument reads behind the call as it read before'; 0 by the template 'total and deterministic' (their statements: YtdjfbojnobjfgaaTotals.lean).
  GIVEN WITH THE SEED: the statements are not yours to turn. If you find one false, say at which input.
  Laid BY PROGRAM, IN A SANDBOX (cutbox-rows.mjs): the forced cells as the released guide's own fill.sh prints them over the translation 0421ecf90128e26a… (all of the seat's roots in one cut). By AI agents, Wed Nov 11 2026. No macro, syntax, notation, axiom, sorry.
-/
import Derived.Test.YtdjfbojnobjfgaaChecked
import GoSem.Claim
import GoSem.ClaimJoined
import GoSem.ClaimMapViews
import Derived.JoinedTies
import Derived.KernelRfl
namespace Go.Proofs.Ytdjfbojnobjfgaa
/- THE CELL 'sum', in the pinned program and in every row, IS THE sha256 OF THE DUMP (.gsa) THAT YtdjfbojnobjfgaaProg.lean LOADS. Nothing in Lean hashes anything: it is a label: what it is worth is what the hold of that sum in a sandbox is worth. -/
noncomputable def Try.pinned : Pinned := { name := "ytdjfbojnobjfgaa", sum := "0421ecf90128e26acbe2599c443e2a57c62293b4c6c1cd80bf8779e337eb97ea", checked := Try.checked }
namespace Rows
def none {H : Type} : Left H := { results := [], args := [] }

/-- 'padlocklaw13.ViewQuorums': WHATEVER THE INPUT: true; the input reads as it did. -/
def viewQuorumsSpec : ChangeSpec := { name := "viewQuorums", fn := fun _ => fun
  | [d1, d2, d3] => { results := [.lit (.bool true)], args := [d1, d2, d3] }
  | _ => none }
def viewQuorumsRow : OpenClaim := { program := "ytdjfbojnobjfgaa", sum := "0421ecf90128e26acbe2599c443e2a57c62293b4c6c1cd80bf8779e337eb97ea", func := "padlock/padlocklaw13.ViewQuorums", spec := "viewQuorums", apart := false }
def ViewQuorumsSaid : Prop := viewQuorumsRow.holds Try.pinned (OpenSpec.ofChange viewQuorumsSpec)

/-- ITS FALSE NEIGHBOUR: 'it returns false'. Refute it at one input. -/
def viewQuorumsWrong : ChangeSpec := { name := "viewQuorums", fn := fun _ => fun
  | [d1, d2, d3] => { results := [.lit (.bool false)], args := [d1, d2, d3] }
  | _ => none }
def ViewQuorumsWrongFalsely : Prop := viewQuorumsRow.holds Try.pinned (OpenSpec.ofChange viewQuorumsWrong)

/-- 'padlocklaw13.ViewTurns': WHATEVER THE INPUT: true; the input reads as it did. -/
def viewTurnsSpec : ChangeSpec := { name := "viewTurns", fn := fun _ => fun
  | [d1, d2] => { results := [.lit (.bool true)], args := [d1, d2] }
  | _ => none }
def viewTurnsRow : OpenClaim := { program := "ytdjfbojnobjfgaa", sum := "0421ecf90128e26acbe2599c443e2a57c62293b4c6c1cd80bf8779e337eb97ea", func := "padlock/padlocklaw13.ViewTurns", spec := "viewTurns", apart := false }
def ViewTurnsSaid : Prop := viewTurnsRow.holds Try.pinned (OpenSpec.ofChange viewTurnsSpec)

/-- ITS FALSE NEIGHBOUR: 'it returns false'. Refute it at one input. -/
def viewTurnsWrong : ChangeSpec := { name := "viewTurns", fn := fun _ => fun
  | [d1, d2] => { results := [.lit (.bool false)], args := [d1, d2] }
  | _ => none }
def ViewTurnsWrongFalsely : Prop := viewTurnsRow.holds Try.pinned (OpenSpec.ofChange viewTurnsWrong)

/-- 'padlocklaw13.ViewConfs': WHATEVER THE INPUT: true; the input reads as it did. -/
def viewConfsSpec : ChangeSpec := { name := "viewConfs", fn := fun _ => fun
  | [d1, d2, d3] => { results := [.lit (.bool true)], args := [d1, d2, d3] }
  | _ => none }
def viewConfsRow : OpenClaim := { program := "ytdjfbojnobjfgaa", sum := "0421ecf90128e26acbe2599c443e2a57c62293b4c6c1cd80bf8779e337eb97ea", func := "padlock/padlocklaw13.ViewConfs", spec := "viewConfs", apart := false }
def ViewConfsSaid : Prop := viewConfsRow.holds Try.pinned (OpenSpec.ofChange viewConfsSpec)

/-- ITS FALSE NEIGHBOUR: 'it returns false'. Refute it at one input. -/
def viewConfsWrong : ChangeSpec := { name := "viewConfs", fn := fun _ => fun
  | [d1, d2, d3] => { results := [.lit (.bool false)], args := [d1, d2, d3] }
  | _ => none }
def ViewConfsWrongFalsely : Prop := viewConfsRow.holds Try.pinned (OpenSpec.ofChange viewConfsWrong)

/-- 'padlocklaw21.PaceRuns': WHATEVER THE INPUT: true; the input reads as it did. -/
def paceRunsSpec : ChangeSpec := { name := "paceRuns", fn := fun _ => fun
  | [d1, d2, d3, d4] => { results := [.lit (.bool true)], args := [d1, d2, d3, d4] }
  | _ => none }
def paceRunsRow : OpenClaim := { program := "ytdjfbojnobjfgaa", sum := "0421ecf90128e26acbe2599c443e2a57c62293b4c6c1cd80bf8779e337eb97ea", func := "padlock/padlocklaw21.PaceRuns", spec := "paceRuns", apart := false }
def PaceRunsSaid : Prop := paceRunsRow.holds Try.pinned (OpenSpec.ofChange paceRunsSpec)

/-- ITS FALSE NEIGHBOUR: 'it returns false'. Refute it at one input. -/
def paceRunsWrong : ChangeSpec := { name := "paceRuns", fn := fun _ => fun
  | [d1, d2, d3, d4] => { results := [.lit (.bool false)], args := [d1, d2, d3, d4] }
  | _ => none }
def PaceRunsWrongFalsely : Prop := paceRunsRow.holds Try.pinned (OpenSpec.ofChange paceRunsWrong)

/-- 'padlocklaw21.PaceViews': WHATEVER THE INPUT: true; the input reads as it did. -/
def paceViewsSpec : ChangeSpec := { name := "paceViews", fn := fun _ => fun
  | [d1, d2, d3, d4] => { results := [.lit (.bool true)], args := [d1, d2, d3, d4] }
  | _ => none }
def paceViewsRow : OpenClaim := { program := "ytdjfbojnobjfgaa", sum := "0421ecf90128e26acbe2599c443e2a57c62293b4c6c1cd80bf8779e337eb97ea", func := "padlock/padlocklaw21.PaceViews", spec := "paceViews", apart := false }
def PaceViewsSaid : Prop := paceViewsRow.holds Try.pinned (OpenSpec.ofChange paceViewsSpec)

/-- ITS FALSE NEIGHBOUR: 'it returns false'. Refute it at one input. -/
def paceViewsWrong : ChangeSpec := { name := "paceViews", fn := fun _ => fun
  | [d1, d2, d3, d4] => { results := [.lit (.bool false)], args := [d1, d2, d3, d4] }
  | _ => none }
def PaceViewsWrongFalsely : Prop := paceViewsRow.holds Try.pinned (OpenSpec.ofChange paceViewsWrong)

/-- 'padlocklaw21.PaceProgress': WHATEVER THE INPUT: true; the input reads as it did. -/
def paceProgressSpec : ChangeSpec := { name := "paceProgress", fn := fun _ => fun
  | [d1, d2, d3, d4] => { results := [.lit (.bool true)], args := [d1, d2, d3, d4] }
  | _ => none }
def paceProgressRow : OpenClaim := { program := "ytdjfbojnobjfgaa", sum := "0421ecf90128e26acbe2599c443e2a57c62293b4c6c1cd80bf8779e337eb97ea", func := "padlock/padlocklaw21.PaceProgress", spec := "paceProgress", apart := false }
def PaceProgressSaid : Prop := paceProgressRow.holds Try.pinned (OpenSpec.ofChange paceProgressSpec)

/-- ITS FALSE NEIGHBOUR: 'it returns false'. Refute it at one input. -/
def paceProgressWrong : ChangeSpec := { name := "paceProgress", fn := fun _ => fun
  | [d1, d2, d3, d4] => { results := [.lit (.bool false)], args := [d1, d2, d3, d4] }
  | _ => none }
def PaceProgressWrongFalsely : Prop := paceProgressRow.holds Try.pinned (OpenSpec.ofChange paceProgressWrong)

/-- 'padlocklaw21.PaceNone': WHATEVER THE INPUT: true; the input reads as it did. -/
def paceNoneSpec : ChangeSpec := { name := "paceNone", fn := fun _ => fun
  | [d1, d2, d3, d4] => { results := [.lit (.bool true)], args := [d1, d2, d3, d4] }
  | _ => none }
def paceNoneRow : OpenClaim := { program := "ytdjfbojnobjfgaa", sum := "0421ecf90128e26acbe2599c443e2a57c62293b4c6c1cd80bf8779e337eb97ea", func := "padlock/padlocklaw21.PaceNone", spec := "paceNone", apart := false }
def PaceNoneSaid : Prop := paceNoneRow.holds Try.pinned (OpenSpec.ofChange paceNoneSpec)

/-- ITS FALSE NEIGHBOUR: 'it returns false'. Refute it at one input. -/
def paceNoneWrong : ChangeSpec := { name := "paceNone", fn := fun _ => fun
  | [d1, d2, d3, d4] => { results := [.lit (.bool false)], args := [d1, d2, d3, d4] }
  | _ => none }
def PaceNoneWrongFalsely : Prop := paceNoneRow.holds Try.pinned (OpenSpec.ofChange paceNoneWrong)

/-- 'padlocklaw13.ViewAll': WHATEVER THE INPUT: true; the input reads as it did. -/
def viewAllSpec : ChangeSpec := { name := "viewAll", fn := fun _ => fun
  | [d1, d2, d3, d4, d5, d6, d7] => { results := [.lit (.bool true)], args := [d1, d2, d3, d4, d5, d6, d7] }
  | _ => none }
def viewAllRow : OpenClaim := { program := "ytdjfbojnobjfgaa", sum := "0421ecf90128e26acbe2599c443e2a57c62293b4c6c1cd80bf8779e337eb97ea", func := "padlock/padlocklaw13.ViewAll", spec := "viewAll", apart := false }
def ViewAllSaid : Prop := viewAllRow.holds Try.pinned (OpenSpec.ofChange viewAllSpec)

/-- ITS FALSE NEIGHBOUR: 'it returns false'. Refute it at one input. -/
def viewAllWrong : ChangeSpec := { name := "viewAll", fn := fun _ => fun
  | [d1, d2, d3, d4, d5, d6, d7] => { results := [.lit (.bool false)], args := [d1, d2, d3, d4, d5, d6, d7] }
  | _ => none }
def ViewAllWrongFalsely : Prop := viewAllRow.holds Try.pinned (OpenSpec.ofChange viewAllWrong)

/-- 'padlocklaw13.ViewTimeouts': WHATEVER THE INPUT: true; the input reads as it did. -/
def viewTimeoutsSpec : ChangeSpec := { name := "viewTimeouts", fn := fun _ => fun
  | [d1, d2, d3, d4] => { results := [.lit (.bool true)], args := [d1, d2, d3, d4] }
  | _ => none }
def viewTimeoutsRow : OpenClaim := { program := "ytdjfbojnobjfgaa", sum := "0421ecf90128e26acbe2599c443e2a57c62293b4c6c1cd80bf8779e337eb97ea", func := "padlock/padlocklaw13.ViewTimeouts", spec := "viewTimeouts", apart := false }
def ViewTimeoutsSaid : Prop := viewTimeoutsRow.holds Try.pinned (OpenSpec.ofChange viewTimeoutsSpec)

/-- ITS FALSE NEIGHBOUR: 'it returns false'. Refute it at one input. -/
def viewTimeoutsWrong : ChangeSpec := { name := "viewTimeouts", fn := fun _ => fun
  | [d1, d2, d3, d4] => { results := [.lit (.bool false)], args := [d1, d2, d3, d4] }
  | _ => none }
def ViewTimeoutsWrongFalsely : Prop := viewTimeoutsRow.holds Try.pinned (OpenSpec.ofChange viewTimeoutsWrong)

/- THE SECOND FORM. 'bulk': how many values and letters a reading holds, each counted each time it is reached (what is shared counts as often as it is met; a slice's spare places count too). A statement '..UptoSaid' is the law's where the arguments, and the package variables that the reading takes, are together of bulk at most 1048576: NARROWER than '..Said'. Prove '..Said' where nothing that the law and all that it calls make is longer than what came in: it says more and counts as full. Else prove '..UptoSaid'. A law counts once. -/
mutual
def uptoBulk {H : Type} : DataW H → Nat
  | .lit (.string bytes) => bytes.length + 1
  | .lit _ => 1
  | .nil => 1
  | .ptr d => uptoBulk d + 1
  | .slice elems spare => uptoBulkAll elems + uptoBulkAll spare + 1
  | .agg parts => uptoBulkAll parts + 1
  | .iface _ d => uptoBulk d + 1
  | .map entries => uptoBulkEntries entries + 1
  | .held _ => 1
def uptoBulkAll {H : Type} : List (DataW H) → Nat
  | [] => 0
  | d :: r => uptoBulk d + uptoBulkAll r
def uptoBulkEntries {H : Type} : List (Lit × DataW H) → Nat
  | [] => 0
  | x :: r => uptoBulkEntry x + uptoBulkEntries r
def uptoBulkEntry {H : Type} : Lit × DataW H → Nat
  | (.string bytes, d) => bytes.length + uptoBulk d + 1
  | (_, d) => uptoBulk d + 1
 end
def uptoSmall : (H : Type) → List (DataW H) → Bool := fun _ ds => decide (uptoBulkAll ds ≤ 1048576)
def OpenSpec.upto (s : _root_.Go.ChangeSpec) : _root_.Go.OpenSpec := { _root_.Go.OpenSpec.ofChange s with cond := some uptoSmall }

/-- 'padlocklaw13.ViewQuorums', WHERE WHAT IT READS IS OF BULK AT MOST 1048576: true; the input reads as it did. -/
def viewQuorumsUptoRow : OpenClaim := { program := "ytdjfbojnobjfgaa", sum := "0421ecf90128e26acbe2599c443e2a57c62293b4c6c1cd80bf8779e337eb97ea", func := "padlock/padlocklaw13.ViewQuorums", spec := "viewQuorums", apart := false, narrowed := true }
def ViewQuorumsUptoSaid : Prop := viewQuorumsUptoRow.holds Try.pinned (OpenSpec.upto viewQuorumsSpec)

/-- 'padlocklaw13.ViewTurns', WHERE WHAT IT READS IS OF BULK AT MOST 1048576: true; the input reads as it did. -/
def viewTurnsUptoRow : OpenClaim := { program := "ytdjfbojnobjfgaa", sum := "0421ecf90128e26acbe2599c443e2a57c62293b4c6c1cd80bf8779e337eb97ea", func := "padlock/padlocklaw13.ViewTurns", spec := "viewTurns", apart := false, narrowed := true }
def ViewTurnsUptoSaid : Prop := viewTurnsUptoRow.holds Try.pinned (OpenSpec.upto viewTurnsSpec)

/-- 'padlocklaw13.ViewConfs', WHERE WHAT IT READS IS OF BULK AT MOST 1048576: true; the input reads as it did. -/
def viewConfsUptoRow : OpenClaim := { program := "ytdjfbojnobjfgaa", sum := "0421ecf90128e26acbe2599c443e2a57c62293b4c6c1cd80bf8779e337eb97ea", func := "padlock/padlocklaw13.ViewConfs", spec := "viewConfs", apart := false, narrowed := true }
def ViewConfsUptoSaid : Prop := viewConfsUptoRow.holds Try.pinned (OpenSpec.upto viewConfsSpec)

/-- 'padlocklaw21.PaceRuns', WHERE WHAT IT READS IS OF BULK AT MOST 1048576: true; the input reads as it did. -/
def paceRunsUptoRow : OpenClaim := { program := "ytdjfbojnobjfgaa", sum := "0421ecf90128e26acbe2599c443e2a57c62293b4c6c1cd80bf8779e337eb97ea", func := "padlock/padlocklaw21.PaceRuns", spec := "paceRuns", apart := false, narrowed := true }
def PaceRunsUptoSaid : Prop := paceRunsUptoRow.holds Try.pinned (OpenSpec.upto paceRunsSpec)

/-- 'padlocklaw21.PaceViews', WHERE WHAT IT READS IS OF BULK AT MOST 1048576: true; the input reads as it did. -/
def paceViewsUptoRow : OpenClaim := { program := "ytdjfbojnobjfgaa", sum := "0421ecf90128e26acbe2599c443e2a57c62293b4c6c1cd80bf8779e337eb97ea", func := "padlock/padlocklaw21.PaceViews", spec := "paceViews", apart := false, narrowed := true }
def PaceViewsUptoSaid : Prop := paceViewsUptoRow.holds Try.pinned (OpenSpec.upto paceViewsSpec)

/-- 'padlocklaw21.PaceProgress', WHERE WHAT IT READS IS OF BULK AT MOST 1048576: true; the input reads as it did. -/
def paceProgressUptoRow : OpenClaim := { program := "ytdjfbojnobjfgaa", sum := "0421ecf90128e26acbe2599c443e2a57c62293b4c6c1cd80bf8779e337eb97ea", func := "padlock/padlocklaw21.PaceProgress", spec := "paceProgress", apart := false, narrowed := true }
def PaceProgressUptoSaid : Prop := paceProgressUptoRow.holds Try.pinned (OpenSpec.upto paceProgressSpec)

/-- 'padlocklaw21.PaceNone', WHERE WHAT IT READS IS OF BULK AT MOST 1048576: true; the input reads as it did. -/
def paceNoneUptoRow : OpenClaim := { program := "ytdjfbojnobjfgaa", sum := "0421ecf90128e26acbe2599c443e2a57c62293b4c6c1cd80bf8779e337eb97ea", func := "padlock/padlocklaw21.PaceNone", spec := "paceNone", apart := false, narrowed := true }
def PaceNoneUptoSaid : Prop := paceNoneUptoRow.holds Try.pinned (OpenSpec.upto paceNoneSpec)

/-- 'padlocklaw13.ViewAll', WHERE WHAT IT READS IS OF BULK AT MOST 1048576: true; the input reads as it did. -/
def viewAllUptoRow : OpenClaim := { program := "ytdjfbojnobjfgaa", sum := "0421ecf90128e26acbe2599c443e2a57c62293b4c6c1cd80bf8779e337eb97ea", func := "padlock/padlocklaw13.ViewAll", spec := "viewAll", apart := false, narrowed := true }
def ViewAllUptoSaid : Prop := viewAllUptoRow.holds Try.pinned (OpenSpec.upto viewAllSpec)

/-- 'padlocklaw13.ViewTimeouts', WHERE WHAT IT READS IS OF BULK AT MOST 1048576: true; the input reads as it did. -/
def viewTimeoutsUptoRow : OpenClaim := { program := "ytdjfbojnobjfgaa", sum := "0421ecf90128e26acbe2599c443e2a57c62293b4c6c1cd80bf8779e337eb97ea", func := "padlock/padlocklaw13.ViewTimeouts", spec := "viewTimeouts", apart := false, narrowed := true }
def ViewTimeoutsUptoSaid : Prop := viewTimeoutsUptoRow.holds Try.pinned (OpenSpec.upto viewTimeoutsSpec)

end Rows
end Go.Proofs.Ytdjfbojnobjfgaa
