/- A quotient of small whole numbers times its divisor lies near what was divided. Plain. -/
import Derived.Test.YtmlcjmgclfgbiaaRows
import Derived.WalkKit
import Derived.WalkSpells
import Derived.WalkLawsBesides
import Derived.Handy
import Derived.Test.YtmlcjmgclfgbiaaMem
import Derived.Test.YtmlcjmgclfgbiaaFl
import Derived.Test.YtmlcjmgclfgbiaaFlRun
namespace Go.Proofs.Ytmlcjmgclfgbiaa
open Go.RowKit
set_option linter.unusedVariables false

set_option exponentiation.threshold 3000
set_option linter.unusedSimpArgs false
open Fl
theorem word_lt (s : Bool) {r : Nat} (h : r ≤ inf) : word s r < 18446744073709551616 := by
  have hi : inf = 9218868437227405312 := rfl
  unfold word; cases s <;> simp <;> omega
theorem near_abs {v a l u d e : Nat} (h1 : l ≤ v) (h2 : v ≤ u) (h3 : l ≤ a) (h4 : a ≤ u) (h5 : u = l + d) (h6 : d ≤ e) : ((v : Int) - (a : Int)).natAbs ≤ e := by omega
def VV : Nat := 2 ^ 1034
theorem VV_eq : VV = 2 ^ 1034 := by unfold VV; rfl
theorem VV_pos : 0 < VV := by rw [VV_eq]; exact Nat.two_pow_pos _
attribute [irreducible] VV
theorem U_VV : U = 1099511627776 * VV := by
  rw [U_eq, VV_eq, show 1074 = 40 + 1034 from rfl, Nat.pow_add]
theorem R6_ge : 1000 * VV ≤ val 4517329193108106637 := by rw [VV_eq]; decide +kernel
theorem near (k m : Nat) (hk1 : 1 ≤ k) (hk : k ≤ 1000) (hm : m < 2000) :
    ∃ q x y, floatBits .quo .f64 (floatOfInt .f64 (m : Int)) (floatOfInt .f64 (k : Int)) = some q ∧ floatBits .mul .f64 q (floatOfInt .f64 (k : Int)) = some x ∧ floatBits .sub .f64 x (floatOfInt .f64 (m : Int)) = some y ∧
      y < 18446744073709551616 ∧ rg y ≤ 4517329193108106637 := by
  have hB : 2 * B = 9007199254740992 := by decide
  have i1 : (4517329193108106637 : Nat) < inf := by decide
  have hi : inf = 9218868437227405312 := rfl
  have gm : rg (floatOfInt .f64 (m : Int)) = ru m := by rw [rg_ofInt]; simp
  have gk : rg (floatOfInt .f64 (k : Int)) = ru k := by rw [rg_ofInt]; simp
  have sm : sg (floatOfInt .f64 (m : Int)) = false := by rw [sg_ofInt]; simp
  have sk : sg (floatOfInt .f64 (k : Int)) = false := by rw [sg_ofInt]; simp
  have vm := ru_val (n := m) (by omega)
  have vk := ru_val (n := k) (by omega)
  have lm := ru_lt (n := m) (by omega)
  have lk := ru_lt (n := k) (by omega)
  have k0 : ru k ≠ 0 := by
    intro e
    rw [e, val_zero] at vk
    have := Nat.mul_pos (show 0 < k by omega) U_pos
    omega
  obtain ⟨r, e1, R⟩ := div_num (x := floatOfInt .f64 (m : Int)) (y := floatOfInt .f64 (k : Int)) (by rw [gm]; exact lm) (by rw [gk]; exact lk) (by rw [gk]; exact k0)
  rw [gm, gk, vm, vk] at R
  rw [sm, sk] at e1
  obtain ⟨f, hf⟩ : ∃ f, m * 1099511627776 / k = f := ⟨_, rfl⟩
  have hdm := Nat.div_add_mod (m * 1099511627776) k
  have hml := Nat.mod_lt (m * 1099511627776) (show 0 < k by omega)
  rw [hf] at hdm
  have hfb : f ≤ m * 1099511627776 := by rw [← hf]; exact Nat.div_le_self _ _
  have hk3 : (f + 1) * k = k * f + k := by rw [Nat.add_mul, Nat.mul_comm f k, Nat.one_mul]
  obtain ⟨bf, hbf, vf⟩ := exists_val 1034 f (by omega) (by omega)
  obtain ⟨bc, hbc, vc⟩ := exists_val 1034 (f + 1) (by omega) (by omega)
  rw [← VV_eq] at vf vc
  have low : bf ≤ r := by
    refine R.above bf (by omega) ?_
    rw [vf]
    have : f * VV * (k * U) = (k * f) * VV * U := by simp only [Nat.mul_assoc, Nat.mul_left_comm, Nat.mul_comm]
    rw [this]
    refine Nat.mul_le_mul_right U ?_
    rw [U_VV, ← Nat.mul_assoc]
    exact Nat.mul_le_mul_right VV (by omega)
  have high : r ≤ bc := by
    refine R.below bc (by omega) ?_
    rw [vc]
    have : (f + 1) * VV * (k * U) = ((f + 1) * k) * VV * U := by simp only [Nat.mul_assoc, Nat.mul_left_comm, Nat.mul_comm]
    rw [this]
    refine Nat.mul_le_mul_right U ?_
    rw [U_VV, ← Nat.mul_assoc]
    exact Nat.mul_le_mul_right VV (by omega)
  have vlow := val_le low (by omega)
  have vhigh := val_le high (by omega)
  rw [vf] at vlow
  rw [vc] at vhigh
  have hr : r < inf := by omega
  have gq : rg (word false r) = r := rg_word (by omega)
  have sq : sg (word false r) = false := sg_word (by omega)
  have e2 := mul_num (x := word false r) (y := floatOfInt .f64 (k : Int)) (by rw [gq]; exact hr) (by rw [gk]; exact lk)
  rw [gq, gk, sq, sk, vk, ← Nat.mul_assoc, RU_scaleU] at e2
  obtain ⟨l1, l2⟩ := RU_val (m := k * f) (E := 1034) (by omega) (by omega) 0
  obtain ⟨u1, u2⟩ := RU_val (m := (f + 1) * k) (E := 1034) (by omega) (by omega) 0
  rw [← VV_eq, Nat.pow_zero, Nat.mul_one] at l1 l2 u1 u2
  have m1 : RU (k * f * VV) 0 ≤ RU (val r * k) 0 := RU_mono 0 (by
    have := Nat.mul_le_mul_right k vlow
    have e : f * VV * k = k * f * VV := by simp only [Nat.mul_assoc, Nat.mul_left_comm, Nat.mul_comm]
    omega)
  have m2 : RU (val r * k) 0 ≤ RU ((f + 1) * k * VV) 0 := RU_mono 0 (by
    have := Nat.mul_le_mul_right k vhigh
    have e : (f + 1) * VV * k = (f + 1) * k * VV := by simp only [Nat.mul_assoc, Nat.mul_left_comm, Nat.mul_comm]
    omega)
  generalize RU (val r * k) 0 = rx at *
  have hrx : rx < inf := by omega
  have v1 := val_le m1 (by omega)
  have v2 := val_le m2 (by omega)
  rw [l2] at v1
  rw [u2] at v2
  have gx : rg (word false rx) = rx := rg_word (by omega)
  have sx : sg (word false rx) = false := sg_word (by omega)
  have e3 := sub_num (x := word false rx) (y := floatOfInt .f64 (m : Int)) (by rw [gx]; exact hrx) (by rw [gm]; exact lm)
  have svx : sv (word false rx) = (val rx : Nat) := by unfold sv; rw [sx, gx]; rfl
  have svm : sv (floatOfInt .f64 (m : Int)) = ((m * U : Nat) : Int) := by unfold sv; rw [sm, gm, vm]; rfl
  rw [svx, svm] at e3
  refine ⟨_, _, _, e1, e2, e3, ?_, ?_⟩
  · exact word_lt _ (RU_le_inf _ _)
  · rw [rg_word (RU_le_inf _ _)]
    refine RU_le (by omega) ?_
    rw [Nat.pow_zero, Nat.mul_one]
    refine Nat.le_trans ?_ R6_ge
    have h1 : k * f * VV ≤ m * U := by rw [U_VV, ← Nat.mul_assoc]; exact Nat.mul_le_mul_right VV (by omega)
    have h2 : m * U ≤ (f + 1) * k * VV := by rw [U_VV, ← Nat.mul_assoc]; exact Nat.mul_le_mul_right VV (by omega)
    have h3 : (f + 1) * k * VV = k * f * VV + k * VV := by rw [hk3, Nat.add_mul]
    have h4 : k * VV ≤ 1000 * VV := Nat.mul_le_mul_right VV hk
    exact near_abs v1 v2 h1 h2 h3 h4
end Go.Proofs.Ytmlcjmgclfgbiaa
