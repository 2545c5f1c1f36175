/- PaceNone returns true at every input, and its arguments read as they did: no condition. -/
import Derived.Test.YtdjfbojnobjfgaaRows
import Derived.WalkKit
import Derived.ProofKit
import Derived.OpenShut
import Derived.ShutString
import Derived.ChangeOld
import Derived.Below
import Derived.WalkSpells
import Derived.WalkLawsBesides
import Derived.Handy
import Derived.Test.YtdjfbojnobjfgaaMem
import Derived.Test.YtdjfbojnobjfgaaView
import Derived.Test.YtdjfbojnobjfgaaPace
import Derived.Test.YtdjfbojnobjfgaaAw21
namespace Go.Proofs.Ytdjfbojnobjfgaa.paceNone
open Go.ChangeShapes Go.WideShapes Go.ChangeAt Go.RowKit
open Go.ChangeMaps (open_string shut_string)
set_option linter.unusedVariables false

set_option maxHeartbeats 2000000 in
theorem walk (a0 a1 a2 a3 : Int) (w : World) (w0 : (Lit.int .i64 a0).wf = true) (w1 : (Lit.int .i64 a1).wf = true) (w2 : (Lit.int .i64 a2).wf = true) (w3 : (Lit.int .u16 a3).wf = true) :
    Calls Try.prog 9 #[.int .i64 a0, .int .i64 a1, .int .i64 a2, .int .u16 a3] w fun e w' => e = .returned (.bool true) ∧ Below w.heap.size w w' := by
  have h3 := bounds_u16 w3
  clear w0 w1 w2 w3
  by_cases h : a0 < 1 ∨ a1 < a0 ∨ 1000000 < a1
  · have hn := new_no a0 a1 w h
    have Hn := Lib.hid hn
    clear hn
    by_cases c1 : a0 < 1
    · clear h
      go_enter Try.func9, Try.ntmps9
      go_wp2_with (first | (go_at_call 19; refine Hn.out.mono ?_; rintro e w' ⟨rfl, rfl⟩) | (go_at_call 23; refine (progress_nil _ _).mono ?_; rintro e w' ⟨rfl, rfl⟩) | (go_at_call 21; refine (enter_nil _ _ _).mono ?_; rintro e w' ⟨rfl, rfl⟩) | (go_at_call 28; refine (due_nil _ _ _).mono ?_; rintro e w' ⟨rfl, rfl⟩) | (go_at_call 26; refine (left_nil _ _).mono ?_; rintro e w' ⟨rfl, rfl⟩) | (go_at_call 25; refine (view_nil _).mono ?_; rintro e w' ⟨rfl, rfl⟩) | (go_at_call 18; refine (awake21_any _).mono ?_; rintro e w5 ⟨rfl, hg5⟩))
      go_ret
      exact ⟨rfl, below_only (Below.refl _ _) (Nat.le_refl _) hg5 (by simp)⟩
    · have c1' : 1 ≤ a0 := by omega
      clear c1
      by_cases c2 : a1 < a0
      · clear h
        go_enter Try.func9, Try.ntmps9
        go_wp2_with (first | (go_at_call 19; refine Hn.out.mono ?_; rintro e w' ⟨rfl, rfl⟩) | (go_at_call 23; refine (progress_nil _ _).mono ?_; rintro e w' ⟨rfl, rfl⟩) | (go_at_call 21; refine (enter_nil _ _ _).mono ?_; rintro e w' ⟨rfl, rfl⟩) | (go_at_call 28; refine (due_nil _ _ _).mono ?_; rintro e w' ⟨rfl, rfl⟩) | (go_at_call 26; refine (left_nil _ _).mono ?_; rintro e w' ⟨rfl, rfl⟩) | (go_at_call 25; refine (view_nil _).mono ?_; rintro e w' ⟨rfl, rfl⟩) | (go_at_call 18; refine (awake21_any _).mono ?_; rintro e w5 ⟨rfl, hg5⟩))
        go_ret
        exact ⟨rfl, below_only (Below.refl _ _) (Nat.le_refl _) hg5 (by simp)⟩
      · have c2' : a0 ≤ a1 := by omega
        have c3' : 1000000 < a1 := by omega
        have hd : decide (a1 ≤ 1000000) = false := decide_eq_false (by omega)
        clear c2 h
        go_enter Try.func9, Try.ntmps9
        go_wp2_with (first | (go_at_call 19; refine Hn.out.mono ?_; rintro e w' ⟨rfl, rfl⟩) | (go_at_call 23; refine (progress_nil _ _).mono ?_; rintro e w' ⟨rfl, rfl⟩) | (go_at_call 21; refine (enter_nil _ _ _).mono ?_; rintro e w' ⟨rfl, rfl⟩) | (go_at_call 28; refine (due_nil _ _ _).mono ?_; rintro e w' ⟨rfl, rfl⟩) | (go_at_call 26; refine (left_nil _ _).mono ?_; rintro e w' ⟨rfl, rfl⟩) | (go_at_call 25; refine (view_nil _).mono ?_; rintro e w' ⟨rfl, rfl⟩) | (go_at_call 18; refine (awake21_any _).mono ?_; rintro e w5 ⟨rfl, hg5⟩))
        go_ret
        exact ⟨rfl, below_only (Below.refl _ _) (Nat.le_refl _) hg5 (by simp)⟩
  · have c1 : 1 ≤ a0 := by omega
    have c2 : a0 ≤ a1 := by omega
    have c3 : a1 ≤ 1000000 := by omega
    have hd : decide (a1 ≤ 1000000) = true := decide_eq_true c3
    clear h
    by_cases hv : a2 ≤ 0 ∨ 2305843009213693952 < a2
    · have hor : a2 ≤ 0 ∨ (0 < a2 ∧ 2305843009213693952 < a2) := by omega
      clear hv
      rcases hor with hv | ⟨hv, hv2⟩
      all_goals
        go_enter Try.func9, Try.ntmps9
        go_wp2_with fail
        refine (new_own a0 a1 w c1 c2 c3).mono ?_
        rintro e w1 ⟨rfl, hp1, hg1, hs1⟩
        go_wp2_with (first | (go_at_call 23; refine (progress_nil _ _).mono ?_; rintro e w' ⟨rfl, rfl⟩) | (go_at_call 28; refine (due_nil _ _ _).mono ?_; rintro e w' ⟨rfl, rfl⟩) | (go_at_call 26; refine (left_nil _ _).mono ?_; rintro e w' ⟨rfl, rfl⟩) | (go_at_call 21; ((with_reducible refine (enter_nil _ _ _).mono ?_); rintro e w' ⟨rfl, rfl⟩)) | (go_at_call 25; ((with_reducible refine (view_nil _).mono ?_); rintro e w' ⟨rfl, rfl⟩)))
        refine (enter_no _ _ _ _ _ _ _ _ hp1 (by omega)).mono ?_
        rintro e w2 ⟨rfl, rfl⟩
        go_wp2_with (first | (go_at_call 25; ((refine (view_own _ _ _ _ _ _ hp1).mono ?_); rintro e w' ⟨rfl, rfl⟩)) | (go_at_call 18; refine (awake21_any _).mono ?_; rintro e w5 ⟨rfl, hg5⟩))
        go_ret
        exact ⟨rfl, below_only (below_only (Below.refl _ _) (Nat.le_refl _) hg1 (by simp)) (by omega) hg5 (by simp)⟩
    · have hv1 : 0 < a2 := by omega
      have hv2 : a2 ≤ 2305843009213693952 := by omega
      clear hv
      go_enter Try.func9, Try.ntmps9
      go_wp2_with fail
      refine (new_own a0 a1 w c1 c2 c3).mono ?_
      rintro e w1 ⟨rfl, hp1, hg1, hs1⟩
      go_wp2_with (first | (go_at_call 23; refine (progress_nil _ _).mono ?_; rintro e w' ⟨rfl, rfl⟩) | (go_at_call 28; refine (due_nil _ _ _).mono ?_; rintro e w' ⟨rfl, rfl⟩) | (go_at_call 26; refine (left_nil _ _).mono ?_; rintro e w' ⟨rfl, rfl⟩) | (go_at_call 21; ((with_reducible refine (enter_nil _ _ _).mono ?_); rintro e w' ⟨rfl, rfl⟩)) | (go_at_call 25; ((with_reducible refine (view_nil _).mono ?_); rintro e w' ⟨rfl, rfl⟩)))
      refine (enter_yes _ _ _ _ _ _ _ _ hp1 (by omega) (by omega)).mono ?_
      rintro e w2 ⟨rfl, hp2, hg2⟩
      go_wp2_with (first | (go_at_call 25; ((refine (view_own _ _ _ _ _ _ hp2).mono ?_); rintro e w' ⟨rfl, rfl⟩)) | (go_at_call 18; refine (awake21_any _).mono ?_; rintro e w5 ⟨rfl, hg5⟩))
      go_ret
      exact ⟨rfl, below_only (below_only (below_only (Below.refl _ _) (Nat.le_refl _) hg1 (by simp)) (by omega) hg2 (by simp)) (by have := hg2.size; omega) hg5 (by simp)⟩

theorem own : ownKnob Try.prog.godebug = none := by kernel_rfl
theorem laidOut : laidOutB Try.prog = true := by kernel_rfl

set_option maxRecDepth 100000 in
theorem lifted (os : Os) (started : os.Started) (H : Type) (enc : TypeId × Value → H) :
    ReturnsInHanded {} Try.checked os 9 .any (Rows.paceNoneSpec.pre6 enc Try.prog Try.f9 Rows.paceNoneRow.domain false) (Rows.paceNoneSpec.post enc Try.prog Try.f9 false true false false) := by
  refine returnsInHanded_of_change (C := Try.checked) own started (by kernel_rfl) Try.func9
    (ChangeSpec.witness6 (enc := enc) (C := Try.checked) false ⟨#[], #[.int .i64 0, .int .i64 0, .int .i64 0, .int .u16 0], []⟩ 8 (by kernel_rfl) (by kernel_rfl) (by kernel_rfl) (by kernel_rfl)) ?_
  intro W base args ds gs before hval0 hW hcnd _
  have hval : ∀ (j : Nat) t v, Try.f9.params[j]? = some t → args[j]? = some v → Value.okWide Try.prog W .any base t v := hval0
  have hW' := hW
  obtain ⟨p, q, hA0, hV, rfl, hfz, hnd⟩ := hW
  have hA : DataW.TrodAll enc Try.prog W 0 (fun _ => true) true Try.f9.params.toList args.toList ds p := hA0
  rw [Try.params9] at hA hval
  obtain ⟨v0, vs0, d0, ds0, p0, q0, hargs, rfl, rfl, h0, r0⟩ := trodAll_cons hA
  obtain ⟨v1, vs1, d1, ds1, p1, q1, rfl, rfl, rfl, h1, r1⟩ := trodAll_cons r0
  obtain ⟨v2, vs2, d2, ds2, p2, q2, rfl, rfl, rfl, h2, r2⟩ := trodAll_cons r1
  obtain ⟨v3, vs3, d3, ds3, p3, q3, rfl, rfl, rfl, h3, r3⟩ := trodAll_cons r2
  obtain ⟨rfl, rfl, rfl⟩ := trodAll_nil r3
  obtain rfl : args = #[v0, v1, v2, v3] := by cases args; simp_all
  obtain ⟨rfl, rfl⟩ := trodVars_none hV
  obtain ⟨a0, rfl, rfl, rfl, w0⟩ := open_int Try.underlying3 (hval 0 3 v0 rfl rfl) h0
  obtain ⟨a1, rfl, rfl, rfl, w1⟩ := open_int Try.underlying3 (hval 1 3 v1 rfl rfl) h1
  obtain ⟨a2, rfl, rfl, rfl, w2⟩ := open_int Try.underlying3 (hval 2 3 v2 rfl rfl) h2
  obtain ⟨a3, rfl, rfl, rfl, w3⟩ := open_int Try.underlying31 (hval 3 31 v3 rfl rfl) h3
  clear hA0 hval0
  refine (walk a0 a1 a2 a3 W w0 w1 w2 w3).mono fun e W' ⟨he, bel⟩ => ?_
  subst he
  exact ⟨_, rfl, _, _, _, [], _, [], hW', trodAll_mk1 (shut_bool Try.underlying4 _), (trodAll_cons_mk (shut_int Try.underlying3 w0) (trodAll_cons_mk (shut_int Try.underlying3 w1) (trodAll_cons_mk (shut_int Try.underlying3 w2) (trodAll_cons_mk (shut_int Try.underlying31 w3) trodAll_mk0)))), rfl, bel.frame _, fun h => by cases h⟩

theorem over : Rows.paceNoneRow.holds Try.pinned (OpenSpec.ofChange Rows.paceNoneSpec) :=
  OpenClaim.holds_of_wide 9 Try.f9 rfl rfl rfl rfl rfl rfl rfl ⟨rfl, rfl, rfl, rfl, rfl⟩ rfl rfl rfl rfl rfl (by kernel_rfl) Try.func9 (by kernel_rfl)
    (of_decide_eq_true (by kernel_rfl)) (by unfold Func.isWrapper; first | (rw [if_pos (by decide +kernel)]; kernel_rfl) | (rw [if_neg (by decide +kernel)]; exact ⟨rfl, rfl⟩))
    (fun os started H enc _ => lifted os started H enc)

/-- The statement. -/
theorem proved : Rows.PaceNoneSaid := over
#print axioms proved
end Go.Proofs.Ytdjfbojnobjfgaa.paceNone
