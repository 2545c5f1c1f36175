/- The contracts of rate.Of, of the document's Of, and of Alike. -/
import Derived.Test.YtmlcjmgclfgbiaaRows
import Derived.WalkKit
import Derived.WalkSpells
import Derived.WalkLawsBesides
import Derived.Handy
import Derived.Test.YtmlcjmgclfgbiaaMem
import Derived.Test.YtmlcjmgclfgbiaaFl
import Derived.Test.YtmlcjmgclfgbiaaFlRun
namespace Go.Proofs.Ytmlcjmgclfgbiaa
open Go.RowKit
set_option linter.unusedVariables false

open Fl
set_option maxHeartbeats 1000000 in
theorem of_any (n m : Int) (w : World) :
    Calls Try.prog 22 #[.int .i64 n, .int .i64 m] w fun e w' => ∃ r k, e = .returned (.float .f64 r) ∧ w' = w.drewN k ∧ Fits (floatBits .quo .f64 (floatOfInt .f64 m) (floatOfInt .f64 n)) r := by
  generalize hx : floatOfInt .f64 m = x
  generalize hy : floatOfInt .f64 n = y
  rcases ho : floatBits .quo .f64 x y with _ | q
  · have e1 : ∀ W : World, (binOp .quo 23 (.float .f64 x) (.float .f64 y)).run Try.prog W = .ok (.float .f64 (nanOf W x y)) W.drew := fun W => run_nan W .quo 23 _ _ (by simp) ho
    go_enter Try.func22, Try.ntmps22
    go_wp2
    go_ret
    exact ⟨_, 1, rfl, rfl, (nanOf_is _ _ _).2, (nanOf_is _ _ _).1⟩
  · have e1 : ∀ W : World, (binOp .quo 23 (.float .f64 x) (.float .f64 y)).run Try.prog W = .ok (.float .f64 q) W := fun W => run_float_arith W .quo 23 .f64 _ _ _ ho
    go_enter Try.func22, Try.ntmps22
    go_wp2
    go_ret
    exact ⟨_, 0, rfl, rfl, bits_lt ho, rfl⟩
set_option maxHeartbeats 1000000 in
theorem of2_any (n m : Int) (w : World) :
    Calls Try.prog 23 #[.int .i64 n, .int .i64 m] w fun e w' => ∃ r k, e = .returned (.float .f64 r) ∧ w' = w.drewN k ∧ Fits (floatBits .quo .f64 (floatOfInt .f64 m) (floatOfInt .f64 n)) r := by
  generalize hx : floatOfInt .f64 m = x
  generalize hy : floatOfInt .f64 n = y
  rcases ho : floatBits .quo .f64 x y with _ | q
  · have e1 : ∀ W : World, (binOp .quo 23 (.float .f64 x) (.float .f64 y)).run Try.prog W = .ok (.float .f64 (nanOf W x y)) W.drew := fun W => run_nan W .quo 23 _ _ (by simp) ho
    go_enter Try.func23, Try.ntmps23
    go_wp2
    go_ret
    exact ⟨_, 1, rfl, rfl, (nanOf_is _ _ _).2, (nanOf_is _ _ _).1⟩
  · have e1 : ∀ W : World, (binOp .quo 23 (.float .f64 x) (.float .f64 y)).run Try.prog W = .ok (.float .f64 q) W := fun W => run_float_arith W .quo 23 .f64 _ _ _ ho
    go_enter Try.func23, Try.ntmps23
    go_wp2
    go_ret
    exact ⟨_, 0, rfl, rfl, bits_lt ho, rfl⟩

set_option maxHeartbeats 1000000 in
theorem alike_any (a b : Nat) (w : World) :
    Calls Try.prog 15 #[.float .f64 a, .float .f64 b] w fun e w' => e = .returned (.bool (al a b)) ∧ w = w' := by
  have a1 := (cmp_ne a a).trans (by rw [feq_self, Bool.not_not])
  have a2 := (cmp_ne b b).trans (by rw [feq_self, Bool.not_not])
  have a3 := cmp_eq a b
  have a4 := cmp_ne a 0
  obtain ⟨v, hv⟩ : ∃ v, al a b = v := ⟨_, rfl⟩
  rw [hv]
  unfold al at hv
  by_cases hz : isN a = false ∧ isN b = false ∧ feq a b = true ∧ feq a 0 = true
  · obtain ⟨h1, h2, h3, h4⟩ := hz
    have ha : rg a = 0 := by rw [feq_zero h1] at h4; simpa using h4
    have hb : rg b = 0 := by
      unfold feq at h3; rw [h1, h2] at h3; unfold key at h3; rw [ha] at h3
      cases hs : sg a <;> cases ht : sg b <;> rw [hs, ht] at h3 <;> simp at h3 <;> omega
    have e1 : ∀ W : World, (binOp .quo 23 (.float .f64 4607182418800017408) (.float .f64 a)).run Try.prog W = .ok (.float .f64 (word (sg a) inf)) W := fun W => run_float_arith W .quo 23 .f64 _ _ _ (inv_zero ha)
    have e2 : ∀ W : World, (binOp .quo 23 (.float .f64 4607182418800017408) (.float .f64 b)).run Try.prog W = .ok (.float .f64 (word (sg b) inf)) W := fun W => run_float_arith W .quo 23 .f64 _ _ _ (inv_zero hb)
    have a5 := (cmp_eq (word (sg a) inf) (word (sg b) inf)).trans (inf_eq_inf _ _)
    rw [h1] at a1; rw [h2] at a2; rw [h3] at a3; rw [h4] at a4
    rw [h1, h2, h3, h4] at hv
    generalize word (sg a) inf = ia at *
    generalize word (sg b) inf = ib at *
    generalize (sg a == sg b) = c at *
    simp only [Bool.or_false, Bool.false_eq_true, if_false, Bool.true_and, Bool.not_true, Bool.false_or] at hv a4
    subst hv
    clear h1 h2 h3 h4 ha hb
    go_enter Try.func15, Try.ntmps15
    go_wp2
    all_goals (go_ret; exact ⟨rfl, rfl⟩)
  · generalize isN a = b1 at *
    generalize isN b = b2 at *
    generalize feq a b = b3 at *
    generalize feq a 0 = b4 at *
    generalize (sg a == sg b) = c at *
    cases b1 <;> cases b2 <;> cases b3 <;> cases b4 <;> simp [-not_and] at hv hz a4 <;> subst hv
    all_goals (
      go_enter Try.func15, Try.ntmps15
      go_wp2
      all_goals (go_ret; exact ⟨rfl, rfl⟩))
