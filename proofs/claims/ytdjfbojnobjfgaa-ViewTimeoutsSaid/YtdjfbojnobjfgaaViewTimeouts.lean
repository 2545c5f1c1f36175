/- ViewTimeouts returns true at every input, and its arguments read as they did: no condition. -/
import Derived.Test.YtdjfbojnobjfgaaRows
import Derived.WalkKit
import Derived.ProofKit
import Derived.OpenShut
import Derived.ShutString
import Derived.ChangeOld
import Derived.Below
import Derived.WalkSpells
import Derived.WalkLawsBesides
import Derived.Handy
import Derived.Test.YtdjfbojnobjfgaaMem
import Derived.Test.YtdjfbojnobjfgaaView
import Derived.Test.YtdjfbojnobjfgaaConf
import Derived.Test.YtdjfbojnobjfgaaAw13
namespace Go.Proofs.Ytdjfbojnobjfgaa.viewTimeouts
open Go.ChangeShapes Go.WideShapes Go.ChangeAt Go.RowKit
open Go.ChangeMaps (open_string shut_string)
set_option linter.unusedVariables false

theorem reachGo_spec (b m need : Int) (h20 : need ≤ timeoutF b m 20) : ∀ f v, v + f = 21 → v ≤ 20 → (∀ j : Nat, j < v → timeoutF b m j < need) → need ≤ timeoutF b m (reachGo b m need f v) ∧ ∀ j : Nat, j < reachGo b m need f v → timeoutF b m j < need
  | 0, v, h, h', _ => by omega
  | f + 1, v, h, h', hj => by
    rw [reachGo]
    split
    · rename_i hlt
      have hv : v ≠ 20 := by rintro rfl; simp at hlt; omega
      refine reachGo_spec b m need h20 f (v + 1) (by omega) (by omega) (fun j hj2 => ?_)
      rcases Nat.lt_or_ge j v with h3 | h3
      · exact hj j h3
      · rw [show j = v from by omega]; exact hlt
    · exact ⟨by omega, hj⟩
theorem reach_spec (b m need : Int) (h0 : 1 ≤ b) (h1 : b ≤ m) (h2 : m ≤ 1000000) (h3 : need ≤ m) : need ≤ timeoutF b m (reachF b m need) ∧ ∀ j : Nat, j < reachF b m need → timeoutF b m j < need :=
  reachGo_spec b m need (by rw [timeoutF_20 b m h0 h1 h2]; exact h3) 21 0 rfl (by omega) (fun j hj => by omega)
theorem timeout_next (b m v : Int) (h0 : 1 ≤ b) (h1 : b ≤ m) (h2 : m ≤ 1000000) (h3 : 0 ≤ v) (h4 : v ≤ 1000) : timeoutF b m (v + 1) = (if m < 2 * timeoutF b m v then m else 2 * timeoutF b m v) := by
  rw [timeoutF_in b m (v + 1) h0 h1 h2 (by omega) (by omega), timeoutF_in b m v h0 h1 h2 h3 (by omega), show (v + 1).toNat = v.toNat + 1 from by omega]
  exact dbl_succ m v.toNat b h0 h1

set_option maxHeartbeats 1000000 in
theorem walk (a0 : Int) (a1 : Int) (a2 : Int) (a3 : Int) (w : World) (w0 : (Lit.int .u16 a0).wf = true) (w1 : (Lit.int .u16 a1).wf = true) (w2 : (Lit.int .u8 a2).wf = true) (w3 : (Lit.int .u32 a3).wf = true) :
    Calls Try.prog 11 #[.int .u16 a0, .int .u16 a1, .int .u8 a2, .int .u32 a3] w fun e w' => e = .returned (.bool true) ∧ Below w.heap.size w w' := by
  have h0 := bounds_u16 w0
  have h1 := bounds_u16 w1
  have h2 := bounds_u8 w2
  have h3 := bounds_u32 w3
  clear w0 w1 w2 w3
  have hb : 1 ≤ 1 + a0 := by omega
  have hm : 1 + a0 ≤ 1 + a0 + a1 := by omega
  have hM : 1 + a0 + a1 ≤ 1000000 := by omega
  have e1 := timeout_next (1 + a0) (1 + a0 + a1) a2 hb hm hM (by omega) (by omega)
  have bd : 1 + a0 ≤ timeoutF (1 + a0) (1 + a0 + a1) a2 ∧ timeoutF (1 + a0) (1 + a0 + a1) a2 ≤ 1 + a0 + a1 := by
    rw [timeoutF_in _ _ _ hb hm hM (by omega) (by omega)]; exact dbl_bd _ _ _ hb hm
  have e2 : timeoutF (1 + a0) (1 + a0 + a1) 0 = 1 + a0 := timeoutF_in _ _ _ hb hm hM (by omega) (by omega)
  have e3 : timeoutF (1 + a0 + a1 + 1) (1 + a0 + a1) 0 = 0 := timeoutF_no _ _ _ (by omega)
  obtain ⟨U, eU⟩ : ∃ U, (if 1 + a0 + a1 < 2 * timeoutF (1 + a0) (1 + a0 + a1) a2 then 1 + a0 + a1 else 2 * timeoutF (1 + a0) (1 + a0 + a1) a2) = U := ⟨_, rfl⟩
  rw [eU] at e1
  by_cases hn : 1 + a0 + a1 < a3
  · go_enter Try.func11, Try.ntmps11
    go_wp2_with (first | (go_at_call 30; refine (timeout_any _ _ _ _).mono ?_; rintro e w' ⟨rfl, rfl⟩) | (go_at_call 31; refine (reach_no _ _ _ _ (by omega)).mono ?_; rintro e w' ⟨rfl, rfl⟩))
    all_goals (refine (awake13_any _).mono ?_; rintro e w5 ⟨rfl, hg5⟩; go_wp2_with fail; go_ret; exact ⟨rfl, below_only (Below.refl _ _) (Nat.le_refl _) hg5 (by simp)⟩)
  · obtain ⟨s1, s2⟩ := reach_spec (1 + a0) (1 + a0 + a1) a3 hb hm hM (by omega)
    have S2 := Lib.hid s2
    have rl := reachGo_le (1 + a0) (1 + a0 + a1) a3 21 0
    have rl' : ((reachF (1 + a0) (1 + a0 + a1) a3 : Nat) : Int) ≤ 21 := by unfold reachF; omega
    clear s2 rl
    have hn' : a3 ≤ 1 + a0 + a1 := by omega
    clear hn
    by_cases hk : reachF (1 + a0) (1 + a0 + a1) a3 = 0
    · have hk' : ((reachF (1 + a0) (1 + a0 + a1) a3 : Nat) : Int) = 0 := by omega
      rw [hk', e2] at s1
      clear hk
      go_enter Try.func11, Try.ntmps11
      go_wp2_with (first | (go_at_call 30; refine (timeout_any _ _ _ _).mono ?_; rintro e w' ⟨rfl, rfl⟩) | (go_at_call 31; refine (reach_yes _ _ _ _ hb hm hM hn').mono ?_; rintro e w' ⟨rfl, rfl⟩))
      all_goals (refine (awake13_any _).mono ?_; rintro e w5 ⟨rfl, hg5⟩; go_wp2_with fail; go_ret; exact ⟨rfl, below_only (Below.refl _ _) (Nat.le_refl _) hg5 (by simp)⟩)
    · have s3 := S2.out (reachF (1 + a0) (1 + a0 + a1) a3 - 1) (by omega)
      rw [show ((reachF (1 + a0) (1 + a0 + a1) a3 - 1 : Nat) : Int) = (reachF (1 + a0) (1 + a0 + a1) a3 : Int) - 1 from by omega] at s3
      have hk' : ((reachF (1 + a0) (1 + a0 + a1) a3 : Int) == 0) = false := by rw [beq_eq_false_iff_ne]; omega
      have hk1 : 1 ≤ (reachF (1 + a0) (1 + a0 + a1) a3 : Int) := by omega
      clear hk
      go_enter Try.func11, Try.ntmps11
      go_wp2_with (first | (go_at_call 30; refine (timeout_any _ _ _ _).mono ?_; rintro e w' ⟨rfl, rfl⟩) | (go_at_call 31; refine (reach_yes _ _ _ _ hb hm hM hn').mono ?_; rintro e w' ⟨rfl, rfl⟩))
      all_goals (refine (awake13_any _).mono ?_; rintro e w5 ⟨rfl, hg5⟩; go_wp2_with fail; go_ret; exact ⟨rfl, below_only (Below.refl _ _) (Nat.le_refl _) hg5 (by simp)⟩)

theorem own : ownKnob Try.prog.godebug = none := by kernel_rfl
theorem laidOut : laidOutB Try.prog = true := by kernel_rfl

set_option maxRecDepth 100000 in
theorem lifted (os : Os) (started : os.Started) (H : Type) (enc : TypeId × Value → H) :
    ReturnsInHanded {} Try.checked os 11 .any (Rows.viewTimeoutsSpec.pre6 enc Try.prog Try.f11 Rows.viewTimeoutsRow.domain false) (Rows.viewTimeoutsSpec.post enc Try.prog Try.f11 false true false false) := by
  refine returnsInHanded_of_change (C := Try.checked) own started (by kernel_rfl) Try.func11
    (ChangeSpec.witness6 (enc := enc) (C := Try.checked) false ⟨#[], #[.int .u16 0, .int .u16 0, .int .u8 0, .int .u32 0], []⟩ 8 (by kernel_rfl) (by kernel_rfl) (by kernel_rfl) (by kernel_rfl)) ?_
  intro W base args ds gs before hval0 hW hcnd _
  have hval : ∀ (j : Nat) t v, Try.f11.params[j]? = some t → args[j]? = some v → Value.okWide Try.prog W .any base t v := hval0
  have hW' := hW
  obtain ⟨p, q, hA0, hV, rfl, hfz, hnd⟩ := hW
  have hA : DataW.TrodAll enc Try.prog W 0 (fun _ => true) true Try.f11.params.toList args.toList ds p := hA0
  rw [Try.params11] at hA hval
  obtain ⟨v0, vs0, d0, ds0, p0, q0, hargs, rfl, rfl, h0, r0⟩ := trodAll_cons hA
  obtain ⟨v1, vs1, d1, ds1, p1, q1, rfl, rfl, rfl, h1, r1⟩ := trodAll_cons r0
  obtain ⟨v2, vs2, d2, ds2, p2, q2, rfl, rfl, rfl, h2, r2⟩ := trodAll_cons r1
  obtain ⟨v3, vs3, d3, ds3, p3, q3, rfl, rfl, rfl, h3, r3⟩ := trodAll_cons r2
  obtain ⟨rfl, rfl, rfl⟩ := trodAll_nil r3
  obtain rfl : args = #[v0, v1, v2, v3] := by cases args; simp_all
  obtain ⟨rfl, rfl⟩ := trodVars_none hV
  obtain ⟨a0, rfl, rfl, rfl, w0⟩ := open_int Try.underlying31 (hval 0 31 v0 rfl rfl) h0
  obtain ⟨a1, rfl, rfl, rfl, w1⟩ := open_int Try.underlying31 (hval 1 31 v1 rfl rfl) h1
  obtain ⟨a2, rfl, rfl, rfl, w2⟩ := open_int Try.underlying5 (hval 2 5 v2 rfl rfl) h2
  obtain ⟨a3, rfl, rfl, rfl, w3⟩ := open_int Try.underlying26 (hval 3 26 v3 rfl rfl) h3
  clear hA0 hval0
  refine (walk a0 a1 a2 a3 W w0 w1 w2 w3).mono fun e W' ⟨he, bel⟩ => ?_
  subst he
  exact ⟨_, rfl, _, _, _, [], _, [], hW', trodAll_mk1 (shut_bool Try.underlying4 _), (trodAll_cons_mk (shut_int Try.underlying31 w0) (trodAll_cons_mk (shut_int Try.underlying31 w1) (trodAll_cons_mk (shut_int Try.underlying5 w2) (trodAll_cons_mk (shut_int Try.underlying26 w3) trodAll_mk0)))), rfl, bel.frame _, fun h => by cases h⟩

theorem over : Rows.viewTimeoutsRow.holds Try.pinned (OpenSpec.ofChange Rows.viewTimeoutsSpec) :=
  OpenClaim.holds_of_wide 11 Try.f11 rfl rfl rfl rfl rfl rfl rfl ⟨rfl, rfl, rfl, rfl, rfl⟩ rfl rfl rfl rfl rfl (by kernel_rfl) Try.func11 (by kernel_rfl)
    (of_decide_eq_true (by kernel_rfl)) (by unfold Func.isWrapper; first | (rw [if_pos (by decide +kernel)]; kernel_rfl) | (rw [if_neg (by decide +kernel)]; exact ⟨rfl, rfl⟩))
    (fun os started H enc _ => lifted os started H enc)

/-- The statement. -/
theorem proved : Rows.ViewTimeoutsSaid := over
#print axioms proved
end Go.Proofs.Ytdjfbojnobjfgaa.viewTimeouts
