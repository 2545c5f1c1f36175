/- GuardLeft returns true at every input, and its arguments read as they did: no condition. -/
import Derived.Test.YtpmpamipcedioaaRows
import Derived.WalkKit
import Derived.ProofKit
import Derived.OpenShut
import Derived.ShutString
import Derived.WalkSpells
import Derived.WalkLawsBesides
import Derived.Handy
import Derived.Test.YtpmpamipcedioaaGuard
namespace Go.Proofs.Ytpmpamipcedioaa.guardLeft
open Go.ChangeShapes Go.WideShapes Go.ChangeAt Go.RowKit
open Go.ChangeMaps (open_string shut_string)
set_option linter.unusedVariables false      -- a walk need not use every 'w<i>' (that an integer argument fits its kind)

theorem own : ownKnob Try.prog.godebug = none := by kernel_rfl


set_option maxHeartbeats 4000000 in
theorem walk (a0 : Int) (a1 : Int) (a2 : Int) (a3 : Int) (a4 : Int) (w0 : (Lit.int .u32 a0).wf = true) (w1 : (Lit.int .u16 a1).wf = true) (w2 : (Lit.int .u8 a2).wf = true) (w3 : (Lit.int .u16 a3).wf = true) (w4 : (Lit.int .i64 a4).wf = true) (w : World) :
    Calls Try.prog 8 #[.int .u32 a0, .int .u16 a1, .int .u8 a2, .int .u16 a3, .int .i64 a4] w fun e w' => e = .returned (.bool true) ∧ Grown w w' := by
  have h0 : 0 ≤ a0 ∧ a0 ≤ 4294967295 := bounds_u32 w0
  have h1 : 0 ≤ a1 ∧ a1 ≤ 65535 := bounds_u16 w1
  have h2 : 0 ≤ a2 ∧ a2 ≤ 255 := bounds_u8 w2
  have h3 : 0 ≤ a3 ∧ a3 ≤ 65535 := bounds_u16 w3
  clear w0 w1 w2 w3 w4
  have sb := spanF_bd (1 + a1) (a2 % 201)
  have e1 : leftF a0 a0 (1 + a1) (a2 % 201) = spanF (1 + a1) (a2 % 201) := by unfold leftF; rw [if_neg (by omega)]; split <;> omega
  have e2 : leftF a0 (a0 - 1 - a3) (1 + a1) (a2 % 201) = 0 := by unfold leftF; rw [if_pos (by omega)]
  have e3 : untilF a0 (1 + a1) (a2 % 201) = a0 + spanF (1 + a1) (a2 % 201) := by unfold untilF; rw [if_neg (by omega)]
  have e4 : leftF a0 (a0 + a3) (1 + a1) (a2 % 201) = if spanF (1 + a1) (a2 % 201) < a3 then 0 else spanF (1 + a1) (a2 % 201) - a3 := by
    unfold leftF; rw [if_neg (by omega), show a0 + a3 - a0 = a3 from by omega]; split <;> split <;> omega
  by_cases hc : spanF (1 + a1) (a2 % 201) < a3
  · rw [if_pos hc] at e4
    by_cases b1 : a4 < 1
    · have f1 := spanF_none a4 (a2 % 201) (by omega)
      by_cases b0 : a4 < 0
      · have f2 := spanF_none (1 + a1) a4 (by omega)
        go_enter Try.func8, Try.ntmps8
        go_wp2_with (first | (go_at_call 17; refine (span_any _ _ _).mono ?_; rintro e w' ⟨rfl, rfl⟩) | (go_at_call 19; refine (until_any _ _ _ _).mono ?_; rintro e w' ⟨rfl, rfl⟩) | (go_at_call 21; refine (left_any _ _ _ _ _ (by omega)).mono ?_; rintro e w' ⟨rfl, rfl⟩) | (go_at_call 23; refine (awake24_any _).mono ?_; rintro e w' ⟨rfl, rfl⟩))
        all_goals (go_ret; exact ⟨rfl, Grown.refl _⟩)
      · go_enter Try.func8, Try.ntmps8
        go_wp2_with (first | (go_at_call 17; refine (span_any _ _ _).mono ?_; rintro e w' ⟨rfl, rfl⟩) | (go_at_call 19; refine (until_any _ _ _ _).mono ?_; rintro e w' ⟨rfl, rfl⟩) | (go_at_call 21; refine (left_any _ _ _ _ _ (by omega)).mono ?_; rintro e w' ⟨rfl, rfl⟩) | (go_at_call 23; refine (awake24_any _).mono ?_; rintro e w' ⟨rfl, rfl⟩))
        all_goals (go_ret; exact ⟨rfl, Grown.refl _⟩)
    · by_cases b2 : a4 ≤ 200
      · by_cases b4 : a4 < 2
        · go_enter Try.func8, Try.ntmps8
          go_wp2_with (first | (go_at_call 17; refine (span_any _ _ _).mono ?_; rintro e w' ⟨rfl, rfl⟩) | (go_at_call 19; refine (until_any _ _ _ _).mono ?_; rintro e w' ⟨rfl, rfl⟩) | (go_at_call 21; refine (left_any _ _ _ _ _ (by omega)).mono ?_; rintro e w' ⟨rfl, rfl⟩) | (go_at_call 23; refine (awake24_any _).mono ?_; rintro e w' ⟨rfl, rfl⟩))
          all_goals (go_ret; exact ⟨rfl, Grown.refl _⟩)
        · have f1 := spanF_pos a4 (a2 % 201) (by omega) (by omega) (by omega) (by omega)
          go_enter Try.func8, Try.ntmps8
          go_wp2_with (first | (go_at_call 17; refine (span_any _ _ _).mono ?_; rintro e w' ⟨rfl, rfl⟩) | (go_at_call 19; refine (until_any _ _ _ _).mono ?_; rintro e w' ⟨rfl, rfl⟩) | (go_at_call 21; refine (left_any _ _ _ _ _ (by omega)).mono ?_; rintro e w' ⟨rfl, rfl⟩) | (go_at_call 23; refine (awake24_any _).mono ?_; rintro e w' ⟨rfl, rfl⟩))
          all_goals (go_ret; exact ⟨rfl, Grown.refl _⟩)
      · have f2 := spanF_none (1 + a1) a4 (by omega)
        by_cases b3 : a4 ≤ 1000000
        · have f1 := spanF_pos a4 (a2 % 201) (by omega) (by omega) (by omega) (by omega)
          go_enter Try.func8, Try.ntmps8
          go_wp2_with (first | (go_at_call 17; refine (span_any _ _ _).mono ?_; rintro e w' ⟨rfl, rfl⟩) | (go_at_call 19; refine (until_any _ _ _ _).mono ?_; rintro e w' ⟨rfl, rfl⟩) | (go_at_call 21; refine (left_any _ _ _ _ _ (by omega)).mono ?_; rintro e w' ⟨rfl, rfl⟩) | (go_at_call 23; refine (awake24_any _).mono ?_; rintro e w' ⟨rfl, rfl⟩))
          all_goals (go_ret; exact ⟨rfl, Grown.refl _⟩)
        · have f1 := spanF_none a4 (a2 % 201) (by omega)
          go_enter Try.func8, Try.ntmps8
          go_wp2_with (first | (go_at_call 17; refine (span_any _ _ _).mono ?_; rintro e w' ⟨rfl, rfl⟩) | (go_at_call 19; refine (until_any _ _ _ _).mono ?_; rintro e w' ⟨rfl, rfl⟩) | (go_at_call 21; refine (left_any _ _ _ _ _ (by omega)).mono ?_; rintro e w' ⟨rfl, rfl⟩) | (go_at_call 23; refine (awake24_any _).mono ?_; rintro e w' ⟨rfl, rfl⟩))
          all_goals (go_ret; exact ⟨rfl, Grown.refl _⟩)
  · rw [if_neg hc] at e4
    have hc' : a3 ≤ spanF (1 + a1) (a2 % 201) := by omega
    clear hc
    by_cases b1 : a4 < 1
    · have f1 := spanF_none a4 (a2 % 201) (by omega)
      by_cases b0 : a4 < 0
      · have f2 := spanF_none (1 + a1) a4 (by omega)
        go_enter Try.func8, Try.ntmps8
        go_wp2_with (first | (go_at_call 17; refine (span_any _ _ _).mono ?_; rintro e w' ⟨rfl, rfl⟩) | (go_at_call 19; refine (until_any _ _ _ _).mono ?_; rintro e w' ⟨rfl, rfl⟩) | (go_at_call 21; refine (left_any _ _ _ _ _ (by omega)).mono ?_; rintro e w' ⟨rfl, rfl⟩) | (go_at_call 23; refine (awake24_any _).mono ?_; rintro e w' ⟨rfl, rfl⟩))
        all_goals (go_ret; exact ⟨rfl, Grown.refl _⟩)
      · go_enter Try.func8, Try.ntmps8
        go_wp2_with (first | (go_at_call 17; refine (span_any _ _ _).mono ?_; rintro e w' ⟨rfl, rfl⟩) | (go_at_call 19; refine (until_any _ _ _ _).mono ?_; rintro e w' ⟨rfl, rfl⟩) | (go_at_call 21; refine (left_any _ _ _ _ _ (by omega)).mono ?_; rintro e w' ⟨rfl, rfl⟩) | (go_at_call 23; refine (awake24_any _).mono ?_; rintro e w' ⟨rfl, rfl⟩))
        all_goals (go_ret; exact ⟨rfl, Grown.refl _⟩)
    · by_cases b2 : a4 ≤ 200
      · by_cases b4 : a4 < 2
        · go_enter Try.func8, Try.ntmps8
          go_wp2_with (first | (go_at_call 17; refine (span_any _ _ _).mono ?_; rintro e w' ⟨rfl, rfl⟩) | (go_at_call 19; refine (until_any _ _ _ _).mono ?_; rintro e w' ⟨rfl, rfl⟩) | (go_at_call 21; refine (left_any _ _ _ _ _ (by omega)).mono ?_; rintro e w' ⟨rfl, rfl⟩) | (go_at_call 23; refine (awake24_any _).mono ?_; rintro e w' ⟨rfl, rfl⟩))
          all_goals (go_ret; exact ⟨rfl, Grown.refl _⟩)
        · have f1 := spanF_pos a4 (a2 % 201) (by omega) (by omega) (by omega) (by omega)
          go_enter Try.func8, Try.ntmps8
          go_wp2_with (first | (go_at_call 17; refine (span_any _ _ _).mono ?_; rintro e w' ⟨rfl, rfl⟩) | (go_at_call 19; refine (until_any _ _ _ _).mono ?_; rintro e w' ⟨rfl, rfl⟩) | (go_at_call 21; refine (left_any _ _ _ _ _ (by omega)).mono ?_; rintro e w' ⟨rfl, rfl⟩) | (go_at_call 23; refine (awake24_any _).mono ?_; rintro e w' ⟨rfl, rfl⟩))
          all_goals (go_ret; exact ⟨rfl, Grown.refl _⟩)
      · have f2 := spanF_none (1 + a1) a4 (by omega)
        by_cases b3 : a4 ≤ 1000000
        · have f1 := spanF_pos a4 (a2 % 201) (by omega) (by omega) (by omega) (by omega)
          go_enter Try.func8, Try.ntmps8
          go_wp2_with (first | (go_at_call 17; refine (span_any _ _ _).mono ?_; rintro e w' ⟨rfl, rfl⟩) | (go_at_call 19; refine (until_any _ _ _ _).mono ?_; rintro e w' ⟨rfl, rfl⟩) | (go_at_call 21; refine (left_any _ _ _ _ _ (by omega)).mono ?_; rintro e w' ⟨rfl, rfl⟩) | (go_at_call 23; refine (awake24_any _).mono ?_; rintro e w' ⟨rfl, rfl⟩))
          all_goals (go_ret; exact ⟨rfl, Grown.refl _⟩)
        · have f1 := spanF_none a4 (a2 % 201) (by omega)
          go_enter Try.func8, Try.ntmps8
          go_wp2_with (first | (go_at_call 17; refine (span_any _ _ _).mono ?_; rintro e w' ⟨rfl, rfl⟩) | (go_at_call 19; refine (until_any _ _ _ _).mono ?_; rintro e w' ⟨rfl, rfl⟩) | (go_at_call 21; refine (left_any _ _ _ _ _ (by omega)).mono ?_; rintro e w' ⟨rfl, rfl⟩) | (go_at_call 23; refine (awake24_any _).mono ?_; rintro e w' ⟨rfl, rfl⟩))
          all_goals (go_ret; exact ⟨rfl, Grown.refl _⟩)

/-! ### THE ROW's STEP: WRITTEN OUT: LEAVE IT -/
set_option maxRecDepth 100000 in
theorem lifted (os : Os) (started : os.Started) (H : Type) (enc : TypeId × Value → H) :
    ReturnsInHanded {} Try.checked os 8 .any (Rows.guardLeftSpec.pre6 enc Try.prog Try.f8 Rows.guardLeftRow.domain false) (Rows.guardLeftSpec.post enc Try.prog Try.f8 false true false false) := by
  refine returnsInHanded_of_change (C := Try.checked) own started (by kernel_rfl) Try.func8
    (ChangeSpec.witness6 (enc := enc) (C := Try.checked) false ⟨#[], #[.int .u32 0, .int .u16 0, .int .u8 0, .int .u16 0, .int .i64 0], []⟩ 8 (by kernel_rfl) (by kernel_rfl) (by kernel_rfl) (by kernel_rfl)) ?_
  intro W base args ds gs before hval0 hW hcnd _
  have hval : ∀ (j : Nat) t v, Try.f8.params[j]? = some t → args[j]? = some v → Value.okWide Try.prog W .any base t v := hval0
  have hW' := hW
  obtain ⟨p, q, hA0, hV, rfl, hfz, hnd⟩ := hW
  have hA : DataW.TrodAll enc Try.prog W 0 (fun _ => true) true Try.f8.params.toList args.toList ds p := hA0
  rw [Try.params8] at hA hval
  obtain ⟨v0, vs0, d0, ds0, p0, q0, hargs, rfl, rfl, h0, r0⟩ := trodAll_cons hA
  obtain ⟨v1, vs1, d1, ds1, p1, q1, rfl, rfl, rfl, h1, r1⟩ := trodAll_cons r0
  obtain ⟨v2, vs2, d2, ds2, p2, q2, rfl, rfl, rfl, h2, r2⟩ := trodAll_cons r1
  obtain ⟨v3, vs3, d3, ds3, p3, q3, rfl, rfl, rfl, h3, r3⟩ := trodAll_cons r2
  obtain ⟨v4, vs4, d4, ds4, p4, q4, rfl, rfl, rfl, h4, r4⟩ := trodAll_cons r3
  obtain ⟨rfl, rfl, rfl⟩ := trodAll_nil r4
  obtain rfl : args = #[v0, v1, v2, v3, v4] := by cases args; simp_all
  obtain ⟨rfl, rfl⟩ := trodVars_none hV
  obtain ⟨a0, rfl, rfl, rfl, w0⟩ := open_int Try.underlying33 (hval 0 33 v0 rfl rfl) h0
  obtain ⟨a1, rfl, rfl, rfl, w1⟩ := open_int Try.underlying35 (hval 1 35 v1 rfl rfl) h1
  obtain ⟨a2, rfl, rfl, rfl, w2⟩ := open_int Try.underlying5 (hval 2 5 v2 rfl rfl) h2
  obtain ⟨a3, rfl, rfl, rfl, w3⟩ := open_int Try.underlying35 (hval 3 35 v3 rfl rfl) h3
  obtain ⟨a4, rfl, rfl, rfl, w4⟩ := open_int Try.underlying3 (hval 4 3 v4 rfl rfl) h4
  clear hA0 hval0
  simp only [List.append_nil] at hW'
  refine (walk a0 a1 a2 a3 a4 w0 w1 w2 w3 w4 W).mono fun e W' ⟨he, hg⟩ => ?_
  subst he
  exact ⟨_, rfl, post_of_same (pa := []) (pv := []) hW' (fun _ _ _ => (trodAll_cons_mk (shut_bool Try.underlying4 _) trodAll_mk0)) (fun sp _ => (trodAll_cons_mk (shut_int Try.underlying33 w0) (trodAll_cons_mk (shut_int Try.underlying35 w1) (trodAll_cons_mk (shut_int Try.underlying5 w2) (trodAll_cons_mk (shut_int Try.underlying35 w3) (trodAll_cons_mk (shut_int Try.underlying3 w4) trodAll_mk0)))))) (fun _ _ => rfl) rfl
    (hg.frame _) hg.2.1 (ok_one (by kernel_rfl) rfl (okWide_bool_mk Try.underlying4 _))⟩

theorem over : Rows.guardLeftRow.holds Try.pinned (OpenSpec.ofChange Rows.guardLeftSpec) :=
  OpenClaim.holds_of_wide 8 Try.f8 rfl rfl rfl rfl rfl rfl rfl ⟨rfl, rfl, rfl, rfl, rfl⟩ rfl rfl rfl rfl rfl (by kernel_rfl) Try.func8 (by kernel_rfl)
    (of_decide_eq_true (by kernel_rfl)) (by unfold Func.isWrapper; first | (rw [if_pos (by decide +kernel)]; kernel_rfl) | (rw [if_neg (by decide +kernel)]; exact ⟨rfl, rfl⟩))
    (fun os started H enc _ => lifted os started H enc)

/-- The statement. -/
theorem proved : Rows.GuardLeftSaid :=
  over
#print axioms proved
end Go.Proofs.Ytpmpamipcedioaa.guardLeft
