/- The document's Within; the examples of package rate's laws hold. -/
import Derived.Test.YtmlcjmgclfgbiaaRows
import Derived.WalkKit
import Derived.WalkSpells
import Derived.WalkLawsBesides
import Derived.Handy
import Derived.Test.YtmlcjmgclfgbiaaMem
import Derived.Test.YtmlcjmgclfgbiaaFl
import Derived.Test.YtmlcjmgclfgbiaaFlRun
import Derived.Test.YtmlcjmgclfgbiaaMove
import Derived.Test.YtmlcjmgclfgbiaaOf
import Derived.Test.YtmlcjmgclfgbiaaBits
import Derived.Test.YtmlcjmgclfgbiaaFar
import Derived.Test.YtmlcjmgclfgbiaaRateW
namespace Go.Proofs.Ytmlcjmgclfgbiaa
open Go.RowKit
set_option linter.unusedVariables false

open Fl
set_option maxHeartbeats 1000000 in
theorem within2_any (n m r : Int) (w : World) :
    Calls Try.prog 21 #[.int .i64 n, .int .i64 m, .int .i64 r] w fun e w' => e = .returned (.bool (withinB n m r)) ∧ w = w' := by
  by_cases h : n < 0 ∨ 2147483648 < n ∨ m < 0 ∨ 2147483648 < m ∨ r < 0 ∨ 1000 < r
  · have e : withinB n m r = false := by unfold withinB; rw [decide_eq_false_iff_not]; omega
    rw [e]
    go_enter Try.func21, Try.ntmps21
    go_wp2
    all_goals (go_ret; exact ⟨rfl, rfl⟩)
  · have h1 : 0 ≤ n := by omega
    have h2 : n ≤ 2147483648 := by omega
    have h3 : 0 ≤ m := by omega
    have h4 : m ≤ 2147483648 := by omega
    have h5 : 0 ≤ r := by omega
    have h6 : r ≤ 1000 := by omega
    obtain ⟨b1, b2⟩ := rn_bd r n h5 h6 h1 h2
    clear h
    by_cases hc : m - n < n - m
    · have e : withinB n m r = decide (1000 * (n - m) ≤ r * n) := by
        unfold withinB; rw [decide_eq_decide]; omega
      rw [e]
      clear e
      go_enter Try.func21, Try.ntmps21
      go_wp2
      all_goals (go_ret; exact ⟨rfl, rfl⟩)
    · have e : withinB n m r = decide (1000 * (m - n) ≤ r * n) := by
        unfold withinB; rw [decide_eq_decide]; omega
      rw [e]
      clear e
      go_enter Try.func21, Try.ntmps21
      go_wp2
      all_goals (go_ret; exact ⟨rfl, rfl⟩)

theorem ex_m : mv 4609434218613702656 (clampN 3) = 4 := by decide +kernel
theorem ex_o : floatBits .quo .f64 (floatOfInt .f64 1) (floatOfInt .f64 2) = some 4602678819172646912 := by decide +kernel
/-- 1 and 3 -/
def one3 (i : Nat) : Nat := if i = 0 then 4607182418800017408 else 4613937818241073152
theorem ex_f : farF one3 2 = 4611686018427387904 := by decide +kernel
theorem ex_w1 : withinB 1000 1100 100 = true := by decide
theorem ex_w2 : withinB 1000 1101 100 = false := by decide
theorem ex_eo : (FloatKind.f64.format.order 4602678819172646912 4602678819172646912 == some .eq) = true := by decide +kernel
theorem ex_ef : (FloatKind.f64.format.order 4611686018427387904 4611686018427387904 == some .eq) = true := by decide +kernel

theorem row13 (w : World) : IsFs (w.alloc (.cells #[.float .f64 4607182418800017408, .float .f64 4613937818241073152] 23)) (some ⟨w.heap.size, 0, none⟩) 2 one3 := by
  refine ⟨by omega, fun i hi => ?_, fun _ => ⟨w.heap.size, 0, rfl, (Blk.new w _ _).lt, fun i hi => ?_⟩⟩
  · unfold one3; split <;> omega
  · rw [Nat.zero_add, (Blk.new w _ _).cell]
    have : i = 0 ∨ i = 1 := by omega
    rcases this with rfl | rfl <;> rfl
set_option maxRecDepth 100000 in
set_option maxHeartbeats 1000000 in
theorem awake2_any (w : World) : Calls Try.prog 24 #[] w fun e w' => e = .returned (.bool true) ∧ w.grownBy w' none := by
  have x1 := ex_eo
  have x2 := ex_ef
  go_enter Try.func24, Try.ntmps24
  go_wp2_with fail
  refine (move_any _ (by omega) _ _).mono ?_
  rw [ex_m]
  rintro e w1 ⟨rfl, rfl⟩
  go_wp2_with fail
  refine (within_any _ _ _ _).mono ?_
  rw [ex_w1]
  rintro e w1 ⟨rfl, rfl⟩
  go_wp2_with fail
  refine (within_any _ _ _ _).mono ?_
  rw [ex_w2]
  rintro e w1 ⟨rfl, rfl⟩
  go_wp2_with fail
  refine (of_any _ _ _).mono ?_
  rw [ex_o]
  rintro e w1 ⟨r, k, rfl, rfl, hr1, hr2⟩
  have hr2' : r = 4602678819172646912 := hr2
  subst hr2'
  go_wp2_with fail
  refine (far_any _ 2 2 one3 _ (row13 _)).mono ?_
  rw [ex_f]
  rintro e w1 ⟨rfl, rfl⟩
  go_wp2_with fail
  go_ret
  exact ⟨rfl, only_alloc (only_drewN (only_refl _ _) _) _⟩
