/- Plain laws of the worst: what is within it; thousandths as rates. -/
import Derived.Test.YtmlcjmgclfgbiaaRows
import Derived.WalkKit
import Derived.WalkSpells
import Derived.WalkLawsBesides
import Derived.Handy
import Derived.Test.YtmlcjmgclfgbiaaMem
import Derived.Test.YtmlcjmgclfgbiaaFl
import Derived.Test.YtmlcjmgclfgbiaaFlRun
import Derived.Test.YtmlcjmgclfgbiaaClean
import Derived.Test.YtmlcjmgclfgbiaaMove
import Derived.Test.YtmlcjmgclfgbiaaRateW
import Derived.Test.YtmlcjmgclfgbiaaCopy
import Derived.Test.YtmlcjmgclfgbiaaHand
import Derived.Test.YtmlcjmgclfgbiaaTwo
import Derived.Test.YtmlcjmgclfgbiaaClkA
import Derived.Test.YtmlcjmgclfgbiaaClk
import Derived.Test.YtmlcjmgclfgbiaaPassC
namespace Go.Proofs.Ytmlcjmgclfgbiaa
open Go.RowKit
set_option linter.unusedVariables false

set_option exponentiation.threshold 3000
open Fl
theorem within_least {p m x : Int} (h1 : 1 ≤ p) (h2 : p ≤ 1000) (h3 : 0 ≤ m) (h4 : m ≤ 16000) (h5 : 0 ≤ x) (h6 : x ≤ 1000) : withinB p m x = decide (leastF p m ≤ x) := by
  obtain ⟨d, hd⟩ : ∃ d, max (m - p) (p - m) = d := ⟨_, rfl⟩
  have e : leastF p m ≤ x ↔ 1000 * d ≤ x * p := by
    unfold leastF
    rw [hd]
    have a : (1000 * d + p - 1) / p < x + 1 ↔ 1000 * d + p - 1 < (x + 1) * p := Int.ediv_lt_iff_lt_mul (by omega)
    rw [Int.add_mul, Int.one_mul] at a
    generalize x * p = y at *
    generalize (1000 * d + p - 1) / p = q at *
    omega
  have e2 : (leastF p m ≤ x) = (1000 * d ≤ x * p) := propext e
  unfold withinB
  rw [decide_eq_decide, e2]
  generalize x * p = y at *
  omega
theorem R1000 : floatOfInt .f64 1000 = 4652007308841189376 := by decide +kernel
theorem Rb_val : 2048 * val 4613936718729445376 = 6143 * U := by rw [U_eq]; decide +kernel
theorem quo1000 (a : Nat) (ha : a ≤ 2999) : ∃ q, floatBits .quo .f64 (floatOfInt .f64 (a : Int)) 4652007308841189376 = some q ∧ q ≤ 4613936718729445376 := by
  have hB : 2 * B = 9007199254740992 := by decide
  have hi : inf = 9218868437227405312 := rfl
  have ga : rg (floatOfInt .f64 (a : Int)) = ru a := by rw [rg_ofInt]; simp
  have sa : sg (floatOfInt .f64 (a : Int)) = false := by rw [sg_ofInt]; simp
  have gk : rg (floatOfInt .f64 1000) = ru 1000 := by rw [rg_ofInt]; rfl
  have sk : sg (floatOfInt .f64 1000) = false := by rw [sg_ofInt]; rfl
  have va := ru_val (n := a) (by omega)
  have la := ru_lt (n := a) (by omega)
  have vk := ru_val (n := 1000) (by omega)
  have lk := ru_lt (n := 1000) (by omega)
  have k0 : ru 1000 ≠ 0 := by
    intro e
    rw [e, val_zero] at vk
    have := U_pos
    omega
  obtain ⟨r, e1, R⟩ := div_num (x := floatOfInt .f64 (a : Int)) (y := floatOfInt .f64 1000) (by rw [ga]; exact la) (by rw [gk]; exact lk) (by rw [gk]; exact k0)
  rw [ga, gk, va, vk] at R
  rw [sa, sk, R1000] at e1
  refine ⟨r, e1, R.below _ (by omega) ?_⟩
  have h := Rb_val
  generalize val 4613936718729445376 = v at *
  have : v * (1000 * U) = (v * 1000) * U := by rw [Nat.mul_assoc]
  rw [this]
  refine Nat.mul_le_mul_right U ?_
  have h2 : a * U ≤ 2999 * U := Nat.mul_le_mul_right U ha
  omega
theorem cl_Rb {q : Nat} (h : q ≤ 4613936718729445376) : cl q ≤ 4613936718729445376 := by
  rw [cl_idem (by omega)]; exact h
theorem mv_Rb : mv 4613936718729445376 1 = 2 := by decide +kernel
theorem mv1_le {x : Nat} (h : x ≤ 4613936718729445376) : mv x 1 ≤ 2 := by
  have := mv_mono (x := x) (y := 4613936718729445376) (k := 1) (l := 1) (by rw [cl_idem (x := x) (by omega), cl_idem (x := 4613936718729445376) (by omega)]; exact h) (by omega) (by omega) (by omega)
  rw [mv_Rb] at this; exact this
theorem least1_le {m : Int} (h0 : 0 ≤ m) (h2 : m ≤ 2) : leastF 1 m ≤ 1000 := by
  unfold leastF; rw [Int.ediv_one]; omega
theorem least1_0 : leastF 1 0 = 1000 := by decide
theorem mvI1_bd {r : Nat → Nat} {i : Nat} (h : r i ≤ 4613936718729445376) : 0 ≤ mvI r 1 i ∧ mvI r 1 i ≤ 2 := by
  have := mv1_le h
  have e : clampN 1 = 1 := by decide
  unfold mvI; rw [e]; omega
theorem mvI_zero {r : Nat → Nat} {n : Int} {i : Nat} (h : r i = 0) : mvI r n i = 0 := by
  unfold mvI; rw [h, mv_zero (cl_idem (by omega))]; rfl
theorem mvI_one {r : Nat → Nat} {n : Int} {i : Nat} (h : r i = 4607182418800017408) (h1 : 1 ≤ n) (h2 : n ≤ 1000) : mvI r n i = n := by
  unfold mvI; rw [h, mv_one (cl_idem (by omega)) (clampN_le _)]; unfold clampN; omega
theorem least_same {n : Int} (h1 : 1 ≤ n) : leastF n n = 0 := by
  unfold leastF
  rw [show 1000 * max (n - n) (n - n) + n - 1 = n - 1 by omega, Int.ediv_eq_zero_of_lt (by omega) (by omega)]; rfl
theorem max_end {wo l : Int} (h : l ≤ 1000) : max (max wo 1000) l = if wo < 1000 then 1000 else wo := by
  split <;> omega
theorem worst_end {r : Nat → Nat} (wo : Int) (h0 : r 0 = 0) (h1 : r 1 ≤ 4613936718729445376) : wF r 1 wo 2 = if wo < 1000 then 1000 else wo := by
  have b := mvI1_bd h1
  have h2 := least1_le b.1 b.2
  have e : wF r 1 wo 2 = max (max wo (leastF 1 (mvI r 1 0))) (leastF 1 (mvI r 1 1)) := rfl
  rw [e, mvI_zero h0, least1_0]
  exact max_end h2
end Go.Proofs.Ytmlcjmgclfgbiaa
