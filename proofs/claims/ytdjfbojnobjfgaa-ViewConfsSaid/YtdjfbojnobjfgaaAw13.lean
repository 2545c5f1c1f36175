/- The examples of package view's laws hold. -/
import Derived.Test.YtdjfbojnobjfgaaRows
import Derived.WalkKit
import Derived.WalkSpells
import Derived.WalkLawsBesides
import Derived.Handy
import Derived.Test.YtdjfbojnobjfgaaMem
import Derived.Test.YtdjfbojnobjfgaaView
import Derived.Test.YtdjfbojnobjfgaaConf
namespace Go.Proofs.Ytdjfbojnobjfgaa
open Go.RowKit
set_option linter.unusedVariables false

theorem ex_t2 : timeoutF 5 30 2 = 20 := by decide
theorem ex_t3 : timeoutF 5 30 3 = 30 := by decide
theorem ex_led : ledF 4 3 0 = 6 := by decide
theorem ex_q : quorumF 3 = 2 := by decide
theorem ex_l : leaderF 4 3 = 1 := by decide
theorem ex_m : mayB 0 0 0 0 0 0 0 0 0 0 0 = false := by decide
set_option maxHeartbeats 400000 in
theorem awake13_any (w : World) : Calls Try.prog 13 #[] w fun e w' => e = .returned (.bool true) ∧ w.grownBy w' none := by
  have x1 := ex_t2
  have x2 := ex_t3
  have x3 := ex_led
  have x4 := ex_q
  have x5 := ex_l
  have x6 := ex_m
  go_enter Try.func13, Try.ntmps13
  go_wp2_with (first | (go_at_call 30; refine (timeout_any _ _ _ _).mono ?_; rintro e w' ⟨rfl, rfl⟩) | (go_at_call 15; refine (led_any _ _ _ _).mono ?_; rintro e w' ⟨rfl, rfl⟩) | (go_at_call 12; refine (quorum_any _ _).mono ?_; rintro e w' ⟨rfl, rfl⟩) | (go_at_call 14; refine (leader_any _ _ _).mono ?_; rintro e w' ⟨rfl, rfl⟩) | (go_at_call 17; refine (mayconf_own _ _ _ _ _ _ _ _ _ _ _ _).mono ?_; rintro e w1 ⟨rfl, hg⟩))
  go_ret
  exact ⟨rfl, hg⟩
end Go.Proofs.Ytdjfbojnobjfgaa
