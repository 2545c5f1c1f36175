/- The contracts of package guard and of its reference: each returns what spanF, untilF, leftF say, and leaves the world as it was. -/
import Derived.Test.YtpmpamipcedioaaRows
import Derived.WalkKit
import Derived.WalkSpells
import Derived.WalkLawsBesides
import Derived.Handy
namespace Go.Proofs.Ytpmpamipcedioaa
open Go.RowKit
set_option linter.unusedVariables false

def spanF (l r : Int) : Int := if l < 1 ∨ 1000000 < l ∨ r < 0 ∨ 200 < r then 0 else l * (1000 - r) / (1000 + r)

theorem prod_bd (l r : Int) (h1 : 1 ≤ l) (h2 : l ≤ 1000000) (h3 : 0 ≤ r) (h4 : r ≤ 200) : 0 ≤ l * (1000 - r) ∧ l * (1000 - r) ≤ 1000000000 := by
  have a : 0 ≤ l * (1000 - r) := Int.mul_nonneg (by omega) (by omega)
  have b : l * (1000 - r) ≤ 1000000 * 1000 := Int.mul_le_mul h2 (by omega) (by omega) (by omega)
  omega

theorem spanF_bd (l r : Int) : 0 ≤ spanF l r ∧ spanF l r ≤ 1000000 := by
  unfold spanF
  split
  · omega
  · have h : 1 ≤ l ∧ l ≤ 1000000 ∧ 0 ≤ r ∧ r ≤ 200 := by omega
    obtain ⟨h1, h2, h3, h4⟩ := h
    have a : 0 ≤ l * (1000 - r) := Int.mul_nonneg (by omega) (by omega)
    refine ⟨Int.ediv_nonneg a (by omega), ?_⟩
    have : l * (1000 - r) ≤ 1000000 * (1000 + r) := Int.mul_le_mul h2 (by omega) (by omega) (by omega)
    exact Int.le_of_lt_add_one (Int.ediv_lt_of_lt_mul (by omega) (by omega))

def untilF (s l r : Int) : Int := if s < 0 ∨ 2305843009213693952 < s then 0 else s + spanF l r
def leftF (s n l r : Int) : Int := if s < 0 ∨ 2305843009213693952 < s ∨ n < s then 0 else if spanF l r - (n - s) < 0 then 0 else spanF l r - (n - s)

set_option maxHeartbeats 400000 in
theorem span_any (l r : Int) (w : World) :
    Calls Try.prog 17 #[.int .i64 l, .int .i64 r] w fun e w' => e = .returned (.int .i64 (spanF l r)) ∧ w = w' := by
  by_cases h : l < 1 ∨ 1000000 < l ∨ r < 0 ∨ 200 < r
  · have e : spanF l r = 0 := by unfold spanF; rw [if_pos h]
    rw [e]
    go_enter Try.func17, Try.ntmps17
    go_wp2
    all_goals (go_ret; exact ⟨rfl, rfl⟩)
  · have e : spanF l r = l * (1000 - r) / (1000 + r) := by unfold spanF; rw [if_neg h]
    rw [e]
    have h1 : 1 ≤ l := by omega
    have h2 : l ≤ 1000000 := by omega
    have h3 : 0 ≤ r := by omega
    have h4 : r ≤ 200 := by omega
    clear h e
    obtain ⟨b1, b2⟩ := prod_bd l r h1 h2 h3 h4
    go_enter Try.func17, Try.ntmps17
    go_wp2
    go_ret
    exact ⟨rfl, rfl⟩

set_option maxHeartbeats 400000 in
theorem rspan_any (l r : Int) (w : World) :
    Calls Try.prog 18 #[.int .i64 l, .int .i64 r] w fun e w' => e = .returned (.int .i64 (spanF l r)) ∧ w = w' := by
  by_cases h : l < 1 ∨ 1000000 < l ∨ r < 0 ∨ 200 < r
  · have e : spanF l r = 0 := by unfold spanF; rw [if_pos h]
    rw [e]
    go_enter Try.func18, Try.ntmps18
    go_wp2
    all_goals (go_ret; exact ⟨rfl, rfl⟩)
  · have e : spanF l r = l * (1000 - r) / (1000 + r) := by unfold spanF; rw [if_neg h]
    rw [e]
    have h1 : 1 ≤ l := by omega
    have h2 : l ≤ 1000000 := by omega
    have h3 : 0 ≤ r := by omega
    have h4 : r ≤ 200 := by omega
    clear h e
    obtain ⟨b1, b2⟩ := prod_bd l r h1 h2 h3 h4
    go_enter Try.func18, Try.ntmps18
    go_wp2
    go_ret
    exact ⟨rfl, rfl⟩

set_option maxHeartbeats 400000 in
theorem until_any (s l r : Int) (w : World) :
    Calls Try.prog 19 #[.int .i64 s, .int .i64 l, .int .i64 r] w fun e w' => e = .returned (.int .i64 (untilF s l r)) ∧ w = w' := by
  by_cases h : s < 0 ∨ 2305843009213693952 < s
  · have e : untilF s l r = 0 := by unfold untilF; rw [if_pos h]
    rw [e]
    go_enter Try.func19, Try.ntmps19
    go_wp2
    all_goals (go_ret; exact ⟨rfl, rfl⟩)
  · have e : untilF s l r = s + spanF l r := by unfold untilF; rw [if_neg h]
    rw [e]
    have h1 : 0 ≤ s := by omega
    have h2 : s ≤ 2305843009213693952 := by omega
    clear h e
    obtain ⟨b1, b2⟩ := spanF_bd l r
    go_enter Try.func19, Try.ntmps19
    go_wp2_with (go_at_call 17; refine (span_any _ _ _).mono ?_; rintro e w' ⟨rfl, rfl⟩)
    go_ret
    exact ⟨rfl, rfl⟩

set_option maxHeartbeats 400000 in
theorem runtil_any (s l r : Int) (w : World) :
    Calls Try.prog 20 #[.int .i64 s, .int .i64 l, .int .i64 r] w fun e w' => e = .returned (.int .i64 (untilF s l r)) ∧ w = w' := by
  by_cases h : s < 0 ∨ 2305843009213693952 < s
  · have e : untilF s l r = 0 := by unfold untilF; rw [if_pos h]
    rw [e]
    go_enter Try.func20, Try.ntmps20
    go_wp2
    all_goals (go_ret; exact ⟨rfl, rfl⟩)
  · have e : untilF s l r = s + spanF l r := by unfold untilF; rw [if_neg h]
    rw [e]
    have h1 : 0 ≤ s := by omega
    have h2 : s ≤ 2305843009213693952 := by omega
    clear h e
    obtain ⟨b1, b2⟩ := spanF_bd l r
    go_enter Try.func20, Try.ntmps20
    go_wp2_with (go_at_call 18; refine (rspan_any _ _ _).mono ?_; rintro e w' ⟨rfl, rfl⟩)
    go_ret
    exact ⟨rfl, rfl⟩

set_option maxHeartbeats 400000 in
theorem left_any (s n l r : Int) (w : World) (hn : n ≤ 9223372036854775807) :
    Calls Try.prog 21 #[.int .i64 s, .int .i64 n, .int .i64 l, .int .i64 r] w fun e w' => e = .returned (.int .i64 (leftF s n l r)) ∧ w = w' := by
  by_cases h : s < 0 ∨ 2305843009213693952 < s ∨ n < s
  · have e : leftF s n l r = 0 := by unfold leftF; rw [if_pos h]
    rw [e]
    go_enter Try.func21, Try.ntmps21
    go_wp2
    all_goals (go_ret; exact ⟨rfl, rfl⟩)
  · have e : leftF s n l r = if spanF l r - (n - s) < 0 then 0 else spanF l r - (n - s) := by unfold leftF; rw [if_neg h]
    rw [e]
    have h1 : 0 ≤ s := by omega
    have h2 : s ≤ 2305843009213693952 := by omega
    have h3 : s ≤ n := by omega
    clear h e
    obtain ⟨b1, b2⟩ := spanF_bd l r
    go_enter Try.func21, Try.ntmps21
    go_wp2_with (go_at_call 17; refine (span_any _ _ _).mono ?_; rintro e w' ⟨rfl, rfl⟩)
    all_goals (go_ret; exact ⟨rfl, rfl⟩)

set_option maxHeartbeats 400000 in
theorem rleft_any (s n l r : Int) (w : World) (hn : n ≤ 9223372036854775807) :
    Calls Try.prog 22 #[.int .i64 s, .int .i64 n, .int .i64 l, .int .i64 r] w fun e w' => e = .returned (.int .i64 (leftF s n l r)) ∧ w = w' := by
  by_cases h : s < 0 ∨ 2305843009213693952 < s ∨ n < s
  · have e : leftF s n l r = 0 := by unfold leftF; rw [if_pos h]
    rw [e]
    go_enter Try.func22, Try.ntmps22
    go_wp2
    all_goals (go_ret; exact ⟨rfl, rfl⟩)
  · obtain ⟨b1, b2⟩ := spanF_bd l r
    have h1 : 0 ≤ s := by omega
    have h2 : s ≤ 2305843009213693952 := by omega
    have h3 : s ≤ n := by omega
    have hu : untilF s l r = s + spanF l r := by unfold untilF; rw [if_neg (by omega)]
    by_cases hc : untilF s l r ≤ n
    · have e : leftF s n l r = 0 := by unfold leftF; rw [if_neg h]; split <;> omega
      rw [e]
      clear h e hu
      go_enter Try.func22, Try.ntmps22
      go_wp2_with (go_at_call 20; refine (runtil_any _ _ _ _).mono ?_; rintro e w' ⟨rfl, rfl⟩)
      go_ret
      exact ⟨rfl, rfl⟩
    · have e : leftF s n l r = untilF s l r - n := by unfold leftF; rw [if_neg h]; split <;> omega
      rw [e]
      have hc' : n < untilF s l r := by omega
      have hc2 : untilF s l r ≤ 2305843009214693952 := by omega
      clear h e hu hc
      go_enter Try.func22, Try.ntmps22
      go_wp2_with (go_at_call 20; refine (runtil_any _ _ _ _).mono ?_; rintro e w' ⟨rfl, rfl⟩)
      go_ret
      exact ⟨rfl, rfl⟩

theorem span_ex : spanF 110 100 = 90 := by decide
theorem until_ex : untilF 5 110 100 = 95 := by decide
theorem left_ex1 : leftF 5 25 110 100 = 70 := by decide
theorem left_ex2 : leftF 5 95 110 100 = 0 := by decide

set_option maxHeartbeats 400000 in
theorem awake24_any (w : World) : Calls Try.prog 23 #[] w fun e w' => e = .returned (.bool true) ∧ w = w' := by
  have h1 := span_ex
  have h2 := until_ex
  have h3 := left_ex1
  have h4 := left_ex2
  go_enter Try.func23, Try.ntmps23
  go_wp2_with (first | (go_at_call 17; refine (span_any _ _ _).mono ?_; rintro e w' ⟨rfl, rfl⟩) | (go_at_call 19; refine (until_any _ _ _ _).mono ?_; rintro e w' ⟨rfl, rfl⟩) | (go_at_call 21; refine (left_any _ _ _ _ _ (by omega)).mono ?_; rintro e w' ⟨rfl, rfl⟩))
  go_ret
  exact ⟨rfl, rfl⟩


theorem spanF_in (l r : Int) (h1 : 1 ≤ l) (h2 : l ≤ 1000000) (h3 : 0 ≤ r) (h4 : r ≤ 200) : spanF l r = l * (1000 - r) / (1000 + r) := by
  unfold spanF; rw [if_neg (by omega)]
theorem spanF_lo (l r : Int) (h1 : 1 ≤ l) (h2 : l ≤ 1000000) (h3 : 0 ≤ r) (h4 : r ≤ 200) : spanF l r * (1000 + r) ≤ l * (1000 - r) := by
  rw [spanF_in l r h1 h2 h3 h4]; exact Int.ediv_mul_le _ (by omega)
theorem spanF_hi (l r : Int) (h1 : 1 ≤ l) (h2 : l ≤ 1000000) (h3 : 0 ≤ r) (h4 : r ≤ 200) : l * (1000 - r) < (spanF l r + 1) * (1000 + r) := by
  rw [spanF_in l r h1 h2 h3 h4]; exact Int.lt_ediv_add_one_mul_self _ (by omega)
theorem spanF_mono_l (l m r : Int) (h1 : 1 ≤ l) (hlm : l ≤ m) (h2 : m ≤ 1000000) (h3 : 0 ≤ r) (h4 : r ≤ 200) : spanF l r ≤ spanF m r := by
  rw [spanF_in l r h1 (by omega) h3 h4, spanF_in m r (by omega) h2 h3 h4]
  exact Int.ediv_le_ediv (by omega) (Int.mul_le_mul_of_nonneg_right hlm (by omega))
theorem spanF_mono_r (l r q : Int) (h1 : 1 ≤ l) (h2 : l ≤ 1000000) (h3 : 0 ≤ r) (hrq : r ≤ q) (h4 : q ≤ 200) : spanF l q ≤ spanF l r := by
  have b := spanF_lo l q h1 h2 (by omega) h4
  have c := (spanF_bd l q).1
  have d : spanF l q * (1000 + r) ≤ spanF l q * (1000 + q) := Int.mul_le_mul_of_nonneg_left (by omega) c
  have e : l * (1000 - q) ≤ l * (1000 - r) := Int.mul_le_mul_of_nonneg_left (by omega) (by omega)
  rw [spanF_in l r h1 h2 h3 (by omega)]
  exact Int.le_ediv_of_mul_le (by omega) (by omega)
theorem spanF_zero (l : Int) (h1 : 1 ≤ l) (h2 : l ≤ 1000000) : spanF l 0 = l := by
  rw [spanF_in l 0 h1 h2 (by omega) (by omega)]; omega
theorem spanF_pos (l r : Int) (h1 : 2 ≤ l) (h2 : l ≤ 1000000) (h3 : 0 ≤ r) (h4 : r ≤ 200) : 0 < spanF l r := by
  have b := spanF_hi l r (by omega) h2 h3 h4
  have c := (spanF_bd l r).1
  have e : 2 * (1000 - r) ≤ l * (1000 - r) := Int.mul_le_mul_of_nonneg_right h1 (by omega)
  rcases Int.lt_or_eq_of_le c with h | h
  · exact h
  · rw [← h] at b; omega
theorem spanF_none (l r : Int) (h : l < 1 ∨ 1000000 < l ∨ r < 0 ∨ 200 < r) : spanF l r = 0 := by
  unfold spanF; rw [if_pos h]
end Go.Proofs.Ytpmpamipcedioaa
