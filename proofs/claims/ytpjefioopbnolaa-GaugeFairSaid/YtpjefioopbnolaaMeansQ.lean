/- Plain laws: the mean of whole numbers lies between bounds of them; one that is no number. -/
import Derived.Test.YtpjefioopbnolaaRows
import Derived.WalkKit
import Derived.WalkSpells
import Derived.WalkLawsBesides
import Derived.Handy
import Derived.Test.YtpjefioopbnolaaMem
import Derived.Test.YtpjefioopbnolaaFl
import Derived.Test.YtpjefioopbnolaaFlRun
import Derived.Test.YtpjefioopbnolaaApp
import Derived.Test.YtpjefioopbnolaaGauV
import Derived.Test.YtpjefioopbnolaaMaxG
import Derived.Test.YtpjefioopbnolaaBits2
import Derived.Test.YtpjefioopbnolaaGauS
import Derived.Test.YtpjefioopbnolaaMost
import Derived.Test.YtpjefioopbnolaaMeansP
namespace Go.Proofs.Ytpjefioopbnolaa
open Go.RowKit
set_option linter.unusedVariables false

open Fl
theorem word_lt (s : Bool) {r : Nat} (h : r ≤ inf) : word s r < 18446744073709551616 := by
  have hi : inf = 9218868437227405312 := rfl
  unfold word; cases s <;> simp <;> omega
theorem key_wordT {r : Nat} (h : r ≤ inf) : Fl.key (word true r) = -((r : Nat) : Int) := by unfold Fl.key; rw [sg_word h, rg_word h]; rfl
theorem key_wordF {r : Nat} (h : r ≤ inf) : Fl.key (word false r) = ((r : Nat) : Int) := by unfold Fl.key; rw [sg_word h, rg_word h]; rfl
theorem ru_nz {n : Nat} (h : n < 9007199254740992) (h0 : 0 < n) : ru n ≠ 0 := fun e => by have := (ru_zero_iff h).1 e; omega
/-- The quotient's rung against a whole number. -/
theorem quo_le {r S n M : Nat} (R : Rounds r (S * U * U) (n * U)) (hM : M < 9007199254740992) (h : S ≤ n * M) : r ≤ ru M := by
  have hB : 2 * B = 9007199254740992 := by decide
  refine R.below _ (Nat.le_of_lt (ru_lt (by omega))) ?_
  rw [ru_val (by omega)]
  have e : M * U * (n * U) = n * M * U * U := by simp only [Nat.mul_left_comm, Nat.mul_comm]
  rw [e]
  exact Nat.mul_le_mul_right U (Nat.mul_le_mul_right U h)
theorem le_quo {r S n M : Nat} (R : Rounds r (S * U * U) (n * U)) (hM : M < 9007199254740992) (h : n * M ≤ S) : ru M ≤ r := by
  have hB : 2 * B = 9007199254740992 := by decide
  refine R.above _ (Nat.le_of_lt (ru_lt (by omega))) ?_
  rw [ru_val (by omega)]
  have e : M * U * (n * U) = n * M * U * U := by simp only [Nat.mul_left_comm, Nat.mul_comm]
  rw [e]
  exact Nat.mul_le_mul_right U (Nat.mul_le_mul_right U h)
theorem nat_side {S M : Int} {n : Nat} (h : S ≤ (n : Int) * M) (h0 : 0 ≤ S) (hM : 0 ≤ M) : S.natAbs ≤ n * M.natAbs := by
  obtain ⟨s, rfl⟩ := Int.eq_ofNat_of_zero_le h0
  obtain ⟨m, rfl⟩ := Int.eq_ofNat_of_zero_le hM
  simp only [Int.natAbs_natCast]
  have : ((n * m : Nat) : Int) = (n : Int) * (m : Int) := Int.natCast_mul n m
  omega
theorem nat_side2 {S M : Int} {n : Nat} (h : (n : Int) * M ≤ S) (h0 : 0 ≤ S) (hM : 0 ≤ M) : n * M.natAbs ≤ S.natAbs := by
  obtain ⟨s, rfl⟩ := Int.eq_ofNat_of_zero_le h0
  obtain ⟨m, rfl⟩ := Int.eq_ofNat_of_zero_le hM
  simp only [Int.natAbs_natCast]
  have : ((n * m : Nat) : Int) = (n : Int) * (m : Int) := Int.natCast_mul n m
  omega
theorem mean_int {S : Int} {n : Nat} (hS : S.natAbs < 4503599627370496) (h1 : 1 ≤ n) (hn : n ≤ 1000) :
    ∃ q, floatBits .quo .f64 (floatOfInt .f64 S) (floatOfInt .f64 (n : Int)) = some q ∧ isN q = false ∧
      (∀ M : Int, M.natAbs ≤ 100000 → S ≤ (n : Int) * M → flt (floatOfInt .f64 M) q = false) ∧ (∀ L : Int, L.natAbs ≤ 100000 → (n : Int) * L ≤ S → flt q (floatOfInt .f64 L) = false) := by
  have hB : 2 * B = 9007199254740992 := by decide
  obtain ⟨r, e, R⟩ := div_num (x := floatOfInt .f64 S) (y := floatOfInt .f64 (n : Int)) (by rw [rg_ofInt]; exact ru_lt (by omega)) (by rw [rg_ofInt]; exact ru_lt (by rw [Int.natAbs_natCast]; omega)) (by rw [rg_ofInt, Int.natAbs_natCast]; exact ru_nz (by omega) (by omega))
  rw [rg_ofInt, rg_ofInt, ru_val (by omega), ru_val (by rw [Int.natAbs_natCast]; omega), Int.natAbs_natCast] at R
  rw [sg_ofInt, sg_ofInt, decide_eq_false (show ¬ (n : Int) < 0 by omega), Bool.xor_false] at e
  have hr := R.top
  have hn2 : ∀ s, isN (word s r) = false := fun s => by unfold isN; rw [rg_word hr]; simpa using hr
  refine ⟨_, e, hn2 _, ?_, ?_⟩
  · intro M hM h
    unfold flt
    rw [ofInt_isN, hn2]
    simp only [Bool.not_false, Bool.true_and]
    refine decide_eq_false ?_
    rw [key_int]
    by_cases hs : S < 0
    · rw [decide_eq_true hs, key_wordT hr]
      by_cases hm : M < 0
      · rw [if_pos hm]
        have := le_quo (M := M.natAbs) R (by omega) (by
          have := nat_side2 (S := -S) (M := -M) (n := n) (by rw [Int.mul_neg]; omega) (by omega) (by omega)
          rw [Int.natAbs_neg, Int.natAbs_neg] at this; exact this)
        omega
      · rw [if_neg hm]; omega
    · rw [decide_eq_false hs, key_wordF hr]
      have hm : ¬ M < 0 := by
        intro hm
        have : (n : Int) * M < 0 := Int.mul_neg_of_pos_of_neg (by omega) hm
        omega
      rw [if_neg hm]
      have := quo_le (M := M.natAbs) R (by omega) (nat_side h (by omega) (by omega))
      omega
  · intro L hL h
    unfold flt
    rw [ofInt_isN, hn2]
    simp only [Bool.not_false, Bool.true_and]
    refine decide_eq_false ?_
    rw [key_int]
    by_cases hs : S < 0
    · rw [decide_eq_true hs, key_wordT hr]
      have hm : L < 0 := by
        apply Int.lt_of_not_ge; intro hm
        have : 0 ≤ (n : Int) * L := Int.mul_nonneg (by omega) hm
        omega
      rw [if_pos hm]
      have := quo_le (M := L.natAbs) R (by omega) (by
        have := nat_side (S := -S) (M := -L) (n := n) (by rw [Int.mul_neg]; omega) (by omega) (by omega)
        rw [Int.natAbs_neg, Int.natAbs_neg] at this; exact this)
      omega
    · rw [decide_eq_false hs, key_wordF hr]
      by_cases hm : L < 0
      · rw [if_pos hm]; omega
      · rw [if_neg hm]
        have := le_quo (M := L.natAbs) R (by omega) (nat_side2 h (by omega) (by omega))
        omega
theorem SV_none {v : Nat → Option Nat} {j k : Nat} (hj : j < k) (h : v j = none) : SV v k = none := by
  induction k with
  | zero => omega
  | succ k ih =>
    by_cases h0 : k = 0
    · subst h0
      have : j = 0 := by omega
      subst this; exact h
    · rw [SV_succ v (by omega)]
      by_cases e : j = k
      · subst e; rw [h]; cases SV v j <;> rfl
      · rw [ih (by omega)]; rfl
def minZ (z : Nat → Int) : Nat → Int
  | 0 => 0
  | k + 1 => if z k < minZ z k then z k else minZ z k
theorem minZ_le (z : Nat → Int) (k : Nat) : minZ z k ≤ 0 ∧ ∀ i, i < k → minZ z k ≤ z i := by
  induction k with
  | zero => exact ⟨Int.le_refl _, fun i hi => by omega⟩
  | succ k ih =>
    unfold minZ
    refine ⟨by split <;> omega, fun i hi => ?_⟩
    by_cases e : i = k
    · subst e; split <;> omega
    · have := ih.2 i (by omega)
      split <;> omega
theorem minZ_bd {z : Nat → Int} {M : Nat} (h : ∀ i, (z i).natAbs ≤ M) (k : Nat) : (minZ z k).natAbs ≤ M := by
  induction k with
  | zero => simp [minZ]
  | succ k ih => have := h k; unfold minZ; split <;> omega
theorem maxZ_ge (z : Nat → Int) (k : Nat) : ∀ i, i ≤ k → z i ≤ maxZ z k := by
  induction k with
  | zero => intro i hi; have : i = 0 := by omega
            subst this; exact Int.le_refl _
  | succ k ih =>
    intro i hi
    show z i ≤ max (maxZ z k) (z (k + 1))
    by_cases e : i = k + 1
    · subst e; exact Int.le_max_right _ _
    · exact Int.le_trans (ih i (by omega)) (Int.le_max_left _ _)
theorem sumZ_le {z : Nat → Int} {M : Int} {k : Nat} (h : ∀ i, i < k → z i ≤ M) : sumZ z k ≤ (k : Int) * M := by
  induction k with
  | zero => simp [sumZ]
  | succ k ih =>
    have := ih fun i hi => h i (by omega)
    have h2 := h k (by omega)
    unfold sumZ
    rw [Int.natCast_succ, Int.add_mul, Int.one_mul]; omega
theorem le_sumZ {z : Nat → Int} {M : Int} {k : Nat} (h : ∀ i, i < k → M ≤ z i) : (k : Int) * M ≤ sumZ z k := by
  induction k with
  | zero => simp [sumZ]
  | succ k ih =>
    have := ih fun i hi => h i (by omega)
    have h2 := h k (by omega)
    unfold sumZ
    rw [Int.natCast_succ, Int.add_mul, Int.one_mul]; omega
end Go.Proofs.Ytpjefioopbnolaa
