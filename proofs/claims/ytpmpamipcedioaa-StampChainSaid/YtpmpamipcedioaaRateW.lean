/- The contract of rate.Within: it tells just what withinB says, and leaves the world as it was. -/
import Derived.Test.YtpmpamipcedioaaRows
import Derived.WalkKit
import Derived.WalkSpells
import Derived.WalkLawsBesides
import Derived.Handy
import Derived.Test.YtpmpamipcedioaaMem
namespace Go.Proofs.Ytpmpamipcedioaa
open Go.RowKit
set_option linter.unusedVariables false

/-- Is a move within so many thousandths of what passed? -/
def withinB (n m r : Int) : Bool := decide (0 ≤ n ∧ n ≤ 2147483648 ∧ 0 ≤ m ∧ m ≤ 2147483648 ∧ 0 ≤ r ∧ r ≤ 1000 ∧ 1000 * (m - n) ≤ r * n ∧ 1000 * (n - m) ≤ r * n)
theorem withinB_true {n m r : Int} (h : 0 ≤ n ∧ n ≤ 2147483648 ∧ 0 ≤ m ∧ m ≤ 2147483648 ∧ 0 ≤ r ∧ r ≤ 1000 ∧ 1000 * (m - n) ≤ r * n ∧ 1000 * (n - m) ≤ r * n) : withinB n m r = true := decide_eq_true h
theorem withinB_out {n m r : Int} (h : withinB n m r = true) : 0 ≤ n ∧ n ≤ 2147483648 ∧ 0 ≤ m ∧ m ≤ 2147483648 ∧ 0 ≤ r ∧ r ≤ 1000 ∧ 1000 * (m - n) ≤ r * n ∧ 1000 * (n - m) ≤ r * n := of_decide_eq_true h
theorem rn_bd (r n : Int) (h1 : 0 ≤ r) (h2 : r ≤ 1000) (h3 : 0 ≤ n) (h4 : n ≤ 2147483648) : 0 ≤ r * n ∧ r * n ≤ 2147483648000 := by
  have a : 0 ≤ r * n := Int.mul_nonneg h1 h3
  have b : r * n ≤ 1000 * 2147483648 := Int.mul_le_mul h2 h4 h3 (by omega)
  omega

set_option maxHeartbeats 1000000 in
theorem within_any (n m r : Int) (w : World) :
    Calls Try.prog 24 #[.int .i64 n, .int .i64 m, .int .i64 r] w fun e w' => e = .returned (.bool (withinB n m r)) ∧ w = w' := by
  by_cases h : n < 0 ∨ 2147483648 < n ∨ m < 0 ∨ 2147483648 < m ∨ r < 0 ∨ 1000 < r
  · have e : withinB n m r = false := by unfold withinB; rw [decide_eq_false_iff_not]; omega
    rw [e]
    go_enter Try.func24, Try.ntmps24
    go_wp2
    all_goals (go_ret; exact ⟨rfl, rfl⟩)
  · have h1 : 0 ≤ n := by omega
    have h2 : n ≤ 2147483648 := by omega
    have h3 : 0 ≤ m := by omega
    have h4 : m ≤ 2147483648 := by omega
    have h5 : 0 ≤ r := by omega
    have h6 : r ≤ 1000 := by omega
    obtain ⟨b1, b2⟩ := rn_bd r n h5 h6 h1 h2
    clear h
    by_cases hc : m - n < n - m
    · have e : withinB n m r = decide (1000 * (n - m) ≤ r * n) := by
        unfold withinB; rw [decide_eq_decide]; omega
      rw [e]
      clear e
      go_enter Try.func24, Try.ntmps24
      go_wp2
      all_goals (go_ret; exact ⟨rfl, rfl⟩)
    · have e : withinB n m r = decide (1000 * (m - n) ≤ r * n) := by
        unfold withinB; rw [decide_eq_decide]; omega
      rw [e]
      clear e
      go_enter Try.func24, Try.ntmps24
      go_wp2
      all_goals (go_ret; exact ⟨rfl, rfl⟩)
end Go.Proofs.Ytpmpamipcedioaa
