/- Pace's contracts in their abstract form; the examples of package pace's laws hold. -/
import Derived.Test.YtdjfbojnobjfgaaRows
import Derived.WalkKit
import Derived.WalkSpells
import Derived.WalkLawsBesides
import Derived.Handy
import Derived.Test.YtdjfbojnobjfgaaMem
import Derived.Test.YtdjfbojnobjfgaaView
import Derived.Test.YtdjfbojnobjfgaaPace
namespace Go.Proofs.Ytdjfbojnobjfgaa
open Go.RowKit
set_option linter.unusedVariables false

theorem left_gr (g : Nat) (b m v s n : Int) (w : World) (h : PaceIs w g 64 b m v s) :
    Calls Try.prog 26 #[.pointer (some ⟨g, 0, none⟩), .int .i64 n] w fun e w' => e = .returned (.int .i64 (leftF b m v s n)) ∧ PaceIs w' g 64 b m v s ∧ w.grownBy w' none :=
  (left_own g b m v s n w h).mono fun e w' ⟨he, k, hw⟩ => by subst hw; exact ⟨he, ⟨h.1.drewN k, h.2⟩, only_drewN (only_refl _ _) k⟩
theorem rleft_gr (g : Nat) (b m v s n : Int) (w : World) (h : PaceIs w g 48 b m v s) :
    Calls Try.prog 27 #[.pointer (some ⟨g, 0, none⟩), .int .i64 n] w fun e w' => e = .returned (.int .i64 (leftF b m v s n)) ∧ PaceIs w' g 48 b m v s ∧ w.grownBy w' none :=
  (rleft_own g b m v s n w h).mono fun e w' ⟨he, k, hw⟩ => by subst hw; exact ⟨he, ⟨h.1.drewN k, h.2⟩, only_drewN (only_refl _ _) k⟩
theorem due_gr (g : Nat) (b m v s n : Int) (a : Bool) (w : World) (h : PaceIs w g 64 b m v s) :
    Calls Try.prog 28 #[.pointer (some ⟨g, 0, none⟩), .int .i64 n, .bool a] w fun e w' => e = .returned (.bool (a && (leftF b m v s n == 0))) ∧ PaceIs w' g 64 b m v s ∧ w.grownBy w' none :=
  (due_own g b m v s n a w h).mono fun e w' ⟨he, k, hw⟩ => by subst hw; exact ⟨he, ⟨h.1.drewN k, h.2⟩, only_drewN (only_refl _ _) k⟩
theorem rdue_gr (g : Nat) (b m v s n : Int) (a : Bool) (w : World) (h : PaceIs w g 48 b m v s) :
    Calls Try.prog 29 #[.pointer (some ⟨g, 0, none⟩), .int .i64 n, .bool a] w fun e w' => e = .returned (.bool (a && (leftF b m v s n == 0))) ∧ PaceIs w' g 48 b m v s ∧ w.grownBy w' none :=
  (rdue_own g b m v s n a w h).mono fun e w' ⟨he, k, hw⟩ => by subst hw; exact ⟨he, ⟨h.1.drewN k, h.2⟩, only_drewN (only_refl _ _) k⟩
theorem ex1 : (true && (leftF 5 30 0 0 4 == 0)) = false := by decide
theorem ex2 : (true && (leftF 5 30 0 0 5 == 0)) = true := by decide
theorem ex3 : (false && (leftF 5 30 0 0 5 == 0)) = false := by decide
theorem ex4 : leftF 5 30 0 0 2 = 3 := by decide
theorem ex5 : leftF 5 30 2 9 9 = 20 := by decide
theorem ex6 : nearF 9 = 9 := by decide
set_option maxHeartbeats 1000000 in
theorem awake21_any (w : World) : Calls Try.prog 18 #[] w fun e w' => e = .returned (.bool true) ∧ w.grownBy w' none := by
  have Hx4 := Lib.hid ex4
  go_enter Try.func18, Try.ntmps18
  go_wp2_with fail
  refine (new_own 5 30 w (by omega) (by omega) (by omega)).mono ?_
  rintro e w1 ⟨rfl, hp1, hg1, hs1⟩
  go_wp2_with fail
  refine (due_gr _ _ _ _ _ _ _ _ hp1).mono ?_
  rintro e w2 ⟨rfl, hp2, hg2⟩
  rw [ex1]
  go_wp2_with fail
  refine (due_gr _ _ _ _ _ _ _ _ hp2).mono ?_
  rintro e w3 ⟨rfl, hp3, hg3⟩
  rw [ex2]
  go_wp2_with fail
  refine (due_gr _ _ _ _ _ _ _ _ hp3).mono ?_
  rintro e w4 ⟨rfl, hp4, hg4⟩
  rw [ex3]
  go_wp2_with fail
  refine (left_gr _ _ _ _ _ _ _ hp4).mono ?_
  rintro e w5 ⟨rfl, hp5, hg5⟩
  rw [ex4]
  go_wp2_with fail
  refine (enter_yes _ _ _ _ _ _ _ _ hp5 (by omega) (by omega)).mono ?_
  rintro e w6 ⟨rfl, hp6, hg6⟩
  rw [ex6] at hp6
  go_wp2_with fail
  refine (view_own _ _ _ _ _ _ hp6).mono ?_
  rintro e w7 ⟨rfl, rfl⟩
  go_wp2_with fail
  refine (left_gr _ _ _ _ _ _ _ hp6).mono ?_
  rintro e w8 ⟨rfl, hp8, hg8⟩
  rw [ex5]
  go_wp2_with fail
  refine (new_no 5 4 _ (by omega)).mono ?_
  rintro e w9 ⟨rfl, rfl⟩
  go_wp2_with fail
  go_ret
  have g5 : w.grownBy w5 none := only_trans (only_trans (only_trans (only_trans hg1 hg2) hg3) hg4) hg5
  exact ⟨rfl, only_trans (only_none (only_trans (only_but g5 _) hg6) (Nat.le_refl _)) hg8⟩
end Go.Proofs.Ytdjfbojnobjfgaa
