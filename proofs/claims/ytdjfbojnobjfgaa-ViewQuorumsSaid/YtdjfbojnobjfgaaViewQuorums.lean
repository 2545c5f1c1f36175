/- ViewQuorums returns true at every input, and its arguments read as they did: no condition. -/
import Derived.Test.YtdjfbojnobjfgaaRows
import Derived.WalkKit
import Derived.ProofKit
import Derived.OpenShut
import Derived.ShutString
import Derived.ChangeOld
import Derived.Below
import Derived.WalkSpells
import Derived.WalkLawsBesides
import Derived.Handy
import Derived.Test.YtdjfbojnobjfgaaMem
import Derived.Test.YtdjfbojnobjfgaaView
import Derived.Test.YtdjfbojnobjfgaaConf
import Derived.Test.YtdjfbojnobjfgaaAw13
namespace Go.Proofs.Ytdjfbojnobjfgaa.viewQuorums
open Go.ChangeShapes Go.WideShapes Go.ChangeAt Go.RowKit
open Go.ChangeMaps (open_string shut_string)
set_option linter.unusedVariables false

def QRel (k : Int) (i x_ y_ c_ : Value) : Prop :=
  ∃ (j x y : Int) (c : Bool), i = .int .i64 j ∧ x_ = .int .i64 x ∧ y_ = .int .i64 y ∧ c_ = .bool c ∧ 0 ≤ j ∧ j ≤ k ∧ 0 ≤ x ∧ x ≤ j ∧ 0 ≤ y ∧ y ≤ j ∧ (c = false → x + y ≤ j)

set_option maxHeartbeats 1000000 in
theorem walk (a0 : Int) (a1 : Int) (a2 : Int) (w : World) (w0 : (Lit.int .u8 a0).wf = true) (w1 : (Lit.int .u8 a1).wf = true) (w2 : (Lit.int .u8 a2).wf = true) :
    Calls Try.prog 3 #[.int .u8 a0, .int .u8 a1, .int .u8 a2] w fun e w' => e = .returned (.bool true) ∧ Below w.heap.size w w' := by
  have h0 := bounds_u8 w0
  have h1 := bounds_u8 w1
  have h2 := bounds_u8 w2
  clear w0 w1 w2
  have hk : 1 ≤ 1 + a0 % 7 ∧ 1 + a0 % 7 ≤ 7 := by omega
  have hq : quorumF (1 + a0 % 7) = (1 + a0 % 7) / 2 + 1 := if_neg (by omega)
  have Hs : Hid (QRel (1 + a0 % 7) (.int .i64 0) (.int .i64 0) (.int .i64 0) (.bool false)) := ⟨0, 0, 0, false, rfl, rfl, rfl, rfl, by omega, by omega, by omega, by omega, by omega, by omega, by omega⟩
  go_enter Try.func3, Try.ntmps3
  go_wp2_with (go_at_call 12; refine (quorum_any _ _).mono ?_; rintro e w' ⟨rfl, rfl⟩)
  go_loop [9, 10, 11, 12] (fun x y c i => QRel (1 + a0 % 7) i x y c) (fun _ _ _ i => (7 - intOf i).toNat)
  case atStart => exact Hs.out
  case round =>
    clear Hs
    obtain ⟨j, x, y, c, rfl, rfl, rfl, rfl, hj0, hj1, hx0, hx1, hy0, hy1, hc⟩ := hrel
    have Hc := Lib.hid hc
    clear hc
    by_cases hj : j < 1 + a0 % 7
    · cases c
      all_goals
        go_wp2_with fail
        all_goals exact ⟨⟨j + 1, _, _, _, rfl, rfl, rfl, rfl, by omega, by omega, by omega, by omega, by omega, by omega, fun hf => by first | (have hx := Hc.out rfl; omega) | (cases hf; done)⟩, by simp [intOf]; omega⟩
    · cases c
      · have hxy := Hc.out rfl
        have hor : x < (1 + a0 % 7) / 2 + 1 ∨ y < (1 + a0 % 7) / 2 + 1 := by omega
        rcases hor with hor | hor
        all_goals
          go_wp2_with fail
          all_goals
            refine (awake13_any _).mono ?_
            rintro e w5 ⟨rfl, hg5⟩
            go_wp2_with fail
            go_ret
            exact ⟨rfl, below_only (Below.refl _ _) (Nat.le_refl _) hg5 (by simp)⟩
      · go_wp2_with fail
        all_goals
          refine (awake13_any _).mono ?_
          rintro e w5 ⟨rfl, hg5⟩
          go_wp2_with fail
          go_ret
          exact ⟨rfl, below_only (Below.refl _ _) (Nat.le_refl _) hg5 (by simp)⟩

theorem own : ownKnob Try.prog.godebug = none := by kernel_rfl
theorem laidOut : laidOutB Try.prog = true := by kernel_rfl

set_option maxRecDepth 100000 in
theorem lifted (os : Os) (started : os.Started) (H : Type) (enc : TypeId × Value → H) :
    ReturnsInHanded {} Try.checked os 3 .any (Rows.viewQuorumsSpec.pre6 enc Try.prog Try.f3 Rows.viewQuorumsRow.domain false) (Rows.viewQuorumsSpec.post enc Try.prog Try.f3 false true false false) := by
  refine returnsInHanded_of_change (C := Try.checked) own started (by kernel_rfl) Try.func3
    (ChangeSpec.witness6 (enc := enc) (C := Try.checked) false ⟨#[], #[.int .u8 0, .int .u8 0, .int .u8 0], []⟩ 8 (by kernel_rfl) (by kernel_rfl) (by kernel_rfl) (by kernel_rfl)) ?_
  intro W base args ds gs before hval0 hW hcnd _
  have hval : ∀ (j : Nat) t v, Try.f3.params[j]? = some t → args[j]? = some v → Value.okWide Try.prog W .any base t v := hval0
  have hW' := hW
  obtain ⟨p, q, hA0, hV, rfl, hfz, hnd⟩ := hW
  have hA : DataW.TrodAll enc Try.prog W 0 (fun _ => true) true Try.f3.params.toList args.toList ds p := hA0
  rw [Try.params3] at hA hval
  obtain ⟨v0, vs0, d0, ds0, p0, q0, hargs, rfl, rfl, h0, r0⟩ := trodAll_cons hA
  obtain ⟨v1, vs1, d1, ds1, p1, q1, rfl, rfl, rfl, h1, r1⟩ := trodAll_cons r0
  obtain ⟨v2, vs2, d2, ds2, p2, q2, rfl, rfl, rfl, h2, r2⟩ := trodAll_cons r1
  obtain ⟨rfl, rfl, rfl⟩ := trodAll_nil r2
  obtain rfl : args = #[v0, v1, v2] := by cases args; simp_all
  obtain ⟨rfl, rfl⟩ := trodVars_none hV
  obtain ⟨a0, rfl, rfl, rfl, w0⟩ := open_int Try.underlying5 (hval 0 5 v0 rfl rfl) h0
  obtain ⟨a1, rfl, rfl, rfl, w1⟩ := open_int Try.underlying5 (hval 1 5 v1 rfl rfl) h1
  obtain ⟨a2, rfl, rfl, rfl, w2⟩ := open_int Try.underlying5 (hval 2 5 v2 rfl rfl) h2
  clear hA0 hval0
  refine (walk a0 a1 a2 W w0 w1 w2).mono fun e W' ⟨he, bel⟩ => ?_
  subst he
  exact ⟨_, rfl, _, _, _, [], _, [], hW', trodAll_mk1 (shut_bool Try.underlying4 _), (trodAll_cons_mk (shut_int Try.underlying5 w0) (trodAll_cons_mk (shut_int Try.underlying5 w1) (trodAll_cons_mk (shut_int Try.underlying5 w2) trodAll_mk0))), rfl, bel.frame _, fun h => by cases h⟩

theorem over : Rows.viewQuorumsRow.holds Try.pinned (OpenSpec.ofChange Rows.viewQuorumsSpec) :=
  OpenClaim.holds_of_wide 3 Try.f3 rfl rfl rfl rfl rfl rfl rfl ⟨rfl, rfl, rfl, rfl, rfl⟩ rfl rfl rfl rfl rfl (by kernel_rfl) Try.func3 (by kernel_rfl)
    (of_decide_eq_true (by kernel_rfl)) (by unfold Func.isWrapper; first | (rw [if_pos (by decide +kernel)]; kernel_rfl) | (rw [if_neg (by decide +kernel)]; exact ⟨rfl, rfl⟩))
    (fun os started H enc _ => lifted os started H enc)

/-- The statement. -/
theorem proved : Rows.ViewQuorumsSaid := over
#print axioms proved
end Go.Proofs.Ytdjfbojnobjfgaa.viewQuorums
