/- The contracts of rate.Clean and of the document's Clean. -/
import Derived.Test.YtmlcjmgclfgbiaaRows
import Derived.WalkKit
import Derived.WalkSpells
import Derived.WalkLawsBesides
import Derived.Handy
import Derived.Test.YtmlcjmgclfgbiaaMem
import Derived.Test.YtmlcjmgclfgbiaaFl
namespace Go.Proofs.Ytmlcjmgclfgbiaa
open Go.RowKit
set_option linter.unusedVariables false

open Fl

theorem clean_any (x : Nat) (w : World) :
    Calls Try.prog 16 #[.float .f64 x] w fun e w' => e = .returned (.float .f64 (cl x)) ∧ w = w' := by
  have a1 := (cmp_ne x x).trans (by rw [feq_self, Bool.not_not])
  have a2 := cmp_lt x 0
  have a3 := cmp_eq x 0
  have a4 := cmp_gt x 4625196817309499392
  obtain ⟨v, hv⟩ : ∃ v, cl x = v := ⟨_, rfl⟩
  rw [hv]
  unfold cl at hv
  generalize isN x = b1 at *
  generalize flt x 0 = b2 at *
  generalize feq x 0 = b3 at *
  generalize flt 4625196817309499392 x = b4 at *
  cases b1 <;> cases b2 <;> cases b3 <;> cases b4 <;> simp only [Bool.false_eq_true, Bool.or_false, Bool.or_true, if_true, if_false] at hv <;> subst hv
  all_goals (
    go_enter Try.func16, Try.ntmps16
    go_wp2
    all_goals (go_ret; exact ⟨rfl, rfl⟩))
