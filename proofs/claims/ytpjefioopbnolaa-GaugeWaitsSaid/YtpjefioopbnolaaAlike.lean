/- The contract of Alike. -/
import Derived.Test.YtpjefioopbnolaaRows
import Derived.WalkKit
import Derived.WalkSpells
import Derived.WalkLawsBesides
import Derived.Handy
import Derived.Test.YtpjefioopbnolaaMem
import Derived.Test.YtpjefioopbnolaaFl
import Derived.Test.YtpjefioopbnolaaFlRun
namespace Go.Proofs.Ytpjefioopbnolaa
open Go.RowKit
set_option linter.unusedVariables false

open Fl
set_option maxHeartbeats 1000000 in
theorem alike_any (a b : Nat) (w : World) :
    Calls Try.prog 10 #[.float .f64 a, .float .f64 b] w fun e w' => e = .returned (.bool (al a b)) ∧ w = w' := by
  have a1 := (cmp_ne a a).trans (by rw [feq_self, Bool.not_not])
  have a2 := (cmp_ne b b).trans (by rw [feq_self, Bool.not_not])
  have a3 := cmp_eq a b
  have a4 := cmp_ne a 0
  obtain ⟨v, hv⟩ : ∃ v, al a b = v := ⟨_, rfl⟩
  rw [hv]
  unfold al at hv
  by_cases hz : isN a = false ∧ isN b = false ∧ feq a b = true ∧ feq a 0 = true
  · obtain ⟨h1, h2, h3, h4⟩ := hz
    have ha : rg a = 0 := by rw [feq_zero h1] at h4; simpa using h4
    have hb : rg b = 0 := by
      unfold feq at h3; rw [h1, h2] at h3; unfold key at h3; rw [ha] at h3
      cases hs : sg a <;> cases ht : sg b <;> rw [hs, ht] at h3 <;> simp at h3 <;> omega
    have e1 : ∀ W : World, (binOp .quo 28 (.float .f64 4607182418800017408) (.float .f64 a)).run Try.prog W = .ok (.float .f64 (word (sg a) inf)) W := fun W => run_float_arith W .quo 28 .f64 _ _ _ (inv_zero ha)
    have e2 : ∀ W : World, (binOp .quo 28 (.float .f64 4607182418800017408) (.float .f64 b)).run Try.prog W = .ok (.float .f64 (word (sg b) inf)) W := fun W => run_float_arith W .quo 28 .f64 _ _ _ (inv_zero hb)
    have a5 := (cmp_eq (word (sg a) inf) (word (sg b) inf)).trans (inf_eq_inf _ _)
    rw [h1] at a1; rw [h2] at a2; rw [h3] at a3; rw [h4] at a4
    rw [h1, h2, h3, h4] at hv
    generalize word (sg a) inf = ia at *
    generalize word (sg b) inf = ib at *
    generalize (sg a == sg b) = c at *
    simp only [Bool.or_false, Bool.false_eq_true, if_false, Bool.true_and, Bool.not_true, Bool.false_or] at hv a4
    subst hv
    clear h1 h2 h3 h4 ha hb
    go_enter Try.func10, Try.ntmps10
    go_wp2
    all_goals (go_ret; exact ⟨rfl, rfl⟩)
  · generalize isN a = b1 at *
    generalize isN b = b2 at *
    generalize feq a b = b3 at *
    generalize feq a 0 = b4 at *
    generalize (sg a == sg b) = c at *
    cases b1 <;> cases b2 <;> cases b3 <;> cases b4 <;> simp [-not_and] at hv hz a4 <;> subst hv
    all_goals (
      go_enter Try.func10, Try.ntmps10
      go_wp2
      all_goals (go_ret; exact ⟨rfl, rfl⟩))
end Go.Proofs.Ytpjefioopbnolaa
