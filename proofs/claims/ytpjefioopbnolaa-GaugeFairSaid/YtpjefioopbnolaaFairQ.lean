/- Plain laws for GaugeFair: the quotient of two whole numbers. -/
import Derived.Test.YtpjefioopbnolaaRows
import Derived.WalkKit
import Derived.WalkSpells
import Derived.WalkLawsBesides
import Derived.Handy
import Derived.Test.YtpjefioopbnolaaMem
import Derived.Test.YtpjefioopbnolaaFl
import Derived.Test.YtpjefioopbnolaaFlRun
import Derived.Test.YtpjefioopbnolaaAlike
import Derived.Test.YtpjefioopbnolaaApp
import Derived.Test.YtpjefioopbnolaaGauV
import Derived.Test.YtpjefioopbnolaaMaxG
import Derived.Test.YtpjefioopbnolaaBits2
import Derived.Test.YtpjefioopbnolaaInf
import Derived.Test.YtpjefioopbnolaaGauS
import Derived.Test.YtpjefioopbnolaaGrade
import Derived.Test.YtpjefioopbnolaaMost
import Derived.Test.YtpjefioopbnolaaFair
import Derived.Test.YtpjefioopbnolaaAw30
import Derived.Test.YtpjefioopbnolaaMeansP
import Derived.Test.YtpjefioopbnolaaMeansQ
import Derived.Test.YtpjefioopbnolaaMeansR
import Derived.Test.YtpjefioopbnolaaFairP
namespace Go.Proofs.Ytpjefioopbnolaa
open Go.RowKit
set_option linter.unusedVariables false

set_option exponentiation.threshold 3000
open Fl Ieee
theorem ru_one : ru 1 = 4607182418800017408 := by decide +kernel
theorem one_lt : (4607182418800017408 : Nat) ≤ inf := by decide
theorem val_one : val 4607182418800017408 = U := by rw [← ru_one, ru_val (by decide), Nat.one_mul]
/-- The rung just under one. -/
theorem val_under : val 4607182418800017407 * 9007199254740992 = 9007199254740991 * U := by decide +kernel
theorem val_1 : val 1 = 1 := by decide
theorem U_big : 10000000000 ≤ U := by decide +kernel
def bN (n : Nat) : Nat := RU (U * 1999999 / (2000000 * n)) 0
theorem bN_ok : ∀ n, n < 41 → 0 < n → bN n ≤ inf ∧ val (bN n) * n ≤ U ∧ val 4607182409792818153 ≤ n * val (bN n) := by decide +kernel
theorem ru_up (G i j m : Nat) : RU (G * 2 ^ (i + 2 + 1074)) (j + 2 + m + 1) = RU (G * 2 ^ (i + 1074)) (j + m + 1) := by
  rw [show i + 2 + 1074 = i + 1074 + 2 by omega, show j + 2 + m + 1 = j + m + 1 + 2 by omega, Nat.pow_add 2 (i + 1074) 2, ← Nat.mul_assoc]
  exact RU_scale _ _ _
/-- The same quotient of both at another scale. -/
theorem div_scale {x y x' y' : Nat} (hx : rg x < inf) (hy : rg y < inf) (hx' : rg x' < inf) (hy' : rg y' < inf) (h0 : rg x ≠ 0) (h1 : rg y ≠ 0)
    (sx : sg x' = sg x) (sy : sg y' = sg y) (mx : mag (rg x') = mag (rg x)) (my : mag (rg y') = mag (rg y)) (ux : up (rg x') = up (rg x) + 2) (uy : up (rg y') = up (rg y) + 2) :
    Ieee.double.div x' y' = Ieee.double.div x y := by
  unfold Format.div
  rw [read_num hx, read_num hy, read_num hx', read_num hy']
  have hn := mag_ne h1
  simp only [Datum.quotient, fw]
  rw [mx, my, if_neg hn, if_neg hn]
  simp only [Option.map_some, write_num]
  rw [sx, sy, ux, uy]
  rw [nearest_eq _ _ _ (up (rg x) + 2 + 1074) (up (rg y) + 2 + (54 + (mag (rg y)).log2 - (mag (rg x)).log2) + 1) (by omega)]
  rw [nearest_eq _ _ _ (up (rg x) + 1074) (up (rg y) + (54 + (mag (rg y)).log2 - (mag (rg x)).log2) + 1) (by omega), ru_up]
theorem mag_up {r : Nat} (h : B ≤ r) : mag (r + 2 * B) = mag r ∧ up (r + 2 * B) = up r + 2 := by
  have hB := B_pos
  refine ⟨?_, ?_⟩
  · unfold mag
    rw [if_neg (by omega), if_neg (by omega), Nat.add_mul_mod_self_right]
  · unfold up
    rw [Nat.add_mul_div_right _ _ hB]
    have : 1 ≤ r / B := (Nat.le_div_iff_mul_le hB).2 (by omega)
    omega
theorem ru_four {a : Nat} (h1 : 1 ≤ a) (ha : a ≤ 10000000000) : ru (4 * a) = ru a + 2 * B ∧ B ≤ ru a := by
  have hB : B = 4503599627370496 := rfl
  have hi : inf = 9218868437227405312 := rfl
  have hb : B ≤ ru a := Nat.le_trans (by rw [ru_one]; omega) (ru_mono h1)
  have hu : ru a ≤ ru 10000000000 := ru_mono ha
  have hm : ru 10000000000 = 4756540486875873280 := by decide +kernel
  refine ⟨?_, hb⟩
  have l1 := ru_lt (n := 4 * a) (by omega)
  refine (val_eq_iff (Nat.le_of_lt l1) (by omega)).1 ?_
  rw [ru_val (by omega)]
  have e : val (ru a + 2 * B) = 4 * val (ru a) := by
    unfold val
    rw [(mag_up hb).1, (mag_up hb).2, Nat.pow_add]
    rw [← Nat.mul_assoc, Nat.mul_comm _ (2 ^ 2)]
  rw [e, ru_val (by omega), Nat.mul_assoc]
theorem fq_four {a d : Nat} (h1 : 1 ≤ a) (h2 : 1 ≤ d) (ha : a ≤ 10000000000) (hd : d ≤ 10000000000) : fq (4 * a) (4 * d) = fq a d := by
  have hB : B = 4503599627370496 := rfl
  have r1 : ∀ n : Nat, rg (floatOfInt .f64 (n : Int)) = ru n := fun n => by rw [rg_ofInt, Int.natAbs_natCast]
  have r2 : ∀ n : Nat, sg (floatOfInt .f64 (n : Int)) = false := fun n => by rw [sg_ofInt]; exact decide_eq_false (by omega)
  have qa := ru_four h1 ha
  have qd := ru_four h2 hd
  show Ieee.double.div _ _ = Ieee.double.div _ _
  refine div_scale (by rw [r1]; exact ru_lt (by omega)) (by rw [r1]; exact ru_lt (by omega)) (by rw [r1]; exact ru_lt (by omega)) (by rw [r1]; exact ru_lt (by omega)) (by rw [r1]; omega) (by rw [r1]; omega) (by rw [r2, r2]) (by rw [r2, r2]) ?_ ?_ ?_ ?_
  · rw [r1, r1, qa.1]; exact (mag_up qa.2).1
  · rw [r1, r1, qd.1]; exact (mag_up qd.2).1
  · rw [r1, r1, qa.1]; exact (mag_up qa.2).2
  · rw [r1, r1, qd.1]; exact (mag_up qd.2).2
theorem feq_small {p q : Nat} (hp : p ≤ inf) (hq : q ≤ inf) : feq p q = decide (p = q) := by
  unfold feq
  rw [small_isN hp, small_isN hq, show key p = p by unfold key; rw [small_sg hp, small_rg hp]; rfl, show key q = q by unfold key; rw [small_sg hq, small_rg hq]; rfl]
  simp only [Bool.not_false, Bool.true_and]
  exact decide_eq_decide.2 (by omega)
theorem word_f (r : Nat) : word (false ^^ false) r = r := by unfold word; simp
/-- What a quotient of whole numbers, no greater than one, is. -/
theorem fq_facts {a d : Nat} (h1 : 1 ≤ a) (h2 : a ≤ d) (hd : d ≤ 10000000000) :
    ∃ r, fq a d = some r ∧ 1 ≤ r ∧ r ≤ 4607182418800017408 ∧ (r = 4607182418800017408 ↔ a = d) ∧
      ∀ n : Nat, 1 ≤ n → n ≤ 40 → d ≤ n * a → ∃ m, floatBits .mul .f64 r (floatOfInt .f64 (n : Int)) = some m ∧ m ≤ inf ∧ 4607182409792818153 ≤ m := by
  have hB : 2 * B = 9007199254740992 := by decide
  have hi : inf = 9218868437227405312 := rfl
  have r1 : ∀ n : Nat, rg (floatOfInt .f64 (n : Int)) = ru n := fun n => by rw [rg_ofInt, Int.natAbs_natCast]
  have r2 : ∀ n : Nat, sg (floatOfInt .f64 (n : Int)) = false := fun n => by rw [sg_ofInt]; exact decide_eq_false (by omega)
  obtain ⟨r, e, R⟩ := div_num (x := floatOfInt .f64 (a : Int)) (y := floatOfInt .f64 (d : Int)) (by rw [r1]; exact ru_lt (by omega)) (by rw [r1]; exact ru_lt (by omega)) (by rw [r1]; exact ru_nz (by omega) (by omega))
  rw [r1, r1, ru_val (by omega), ru_val (by omega)] at R
  rw [r2, r2] at e
  have hU := U_pos
  have c1 : r ≤ 4607182418800017408 := R.below _ one_lt (by
    rw [val_one]
    have : a * U * U ≤ d * U * U := Nat.mul_le_mul_right U (Nat.mul_le_mul_right U h2)
    rw [Nat.mul_comm U (d * U)]; exact this)
  have c2 : 1 ≤ r := R.above 1 (by decide) (by
    rw [val_1, Nat.one_mul]
    have hb := U_big
    have h3 : d * U ≤ U * U := Nat.mul_le_mul_right U (by omega)
    have h4 : 1 * U * U ≤ a * U * U := Nat.mul_le_mul_right U (Nat.mul_le_mul_right U h1)
    rw [Nat.one_mul] at h4; omega)
  refine ⟨r, ?_, c2, c1, ⟨fun h3 => ?_, fun h3 => ?_⟩, ?_⟩
  · show Ieee.double.div _ _ = some r
    rw [e, word_f]
  · apply Nat.le_antisymm h2
    apply Nat.le_of_not_lt
    intro hlt
    have := R.below 4607182418800017407 (by decide) (by
      have hv := val_under
      refine Nat.le_of_mul_le_mul_right (c := 9007199254740992) ?_ (by omega)
      have e2 : val 4607182418800017407 * (d * U) * 9007199254740992 = 9007199254740991 * d * (U * U) := by
        rw [show val 4607182418800017407 * (d * U) * 9007199254740992 = val 4607182418800017407 * 9007199254740992 * (d * U) by simp only [Nat.mul_assoc, Nat.mul_left_comm, Nat.mul_comm], hv]
        simp only [Nat.mul_assoc, Nat.mul_left_comm, Nat.mul_comm]
      have e3 : a * U * U * 9007199254740992 = 9007199254740992 * a * (U * U) := by simp only [Nat.mul_assoc, Nat.mul_left_comm, Nat.mul_comm]
      rw [e2, e3]
      exact Nat.mul_le_mul_right _ (by omega))
    omega
  · subst h3
    have := R.above 4607182418800017408 one_lt (by
      rw [val_one, Nat.mul_comm U (a * U)]; exact Nat.le_refl _)
    omega
  · intro n hn1 hn2 hn3
    have hb := bN_ok n (by omega) (by omega)
    have hbr : bN n ≤ r := R.above _ hb.1 (by
      have h3 : val (bN n) * d ≤ val (bN n) * n * a := by rw [Nat.mul_assoc]; exact Nat.mul_le_mul_left _ hn3
      have h4 : val (bN n) * n * a ≤ U * a := Nat.mul_le_mul_right a hb.2.1
      have h5 := Nat.mul_le_mul_right U (Nat.le_trans h3 h4)
      rw [Nat.mul_comm U a] at h5
      rw [← Nat.mul_assoc]; exact h5)
    have hr : r ≤ inf := R.top
    have hr2 : r < inf := by omega
    have rr : rg r = r := small_rg hr
    have rs : sg r = false := by unfold sg; simp; omega
    refine ⟨_, mul_num (by rw [rr]; exact hr2) (by rw [r1]; exact ru_lt (by omega)), ?_, ?_⟩
    · rw [rs, r2, r1, rr, word_f]
      exact RU_le_inf _ _
    · rw [rs, r2, r1, rr, word_f, ru_val (by omega), ← Nat.mul_assoc, RU_scaleU]
      refine le_RU (by decide) ?_
      rw [Nat.pow_zero, Nat.mul_one, Nat.mul_comm (val r)]
      refine Nat.le_trans hb.2.2 (Nat.mul_le_mul_left n ?_)
      rcases Nat.eq_or_lt_of_le hbr with h | h
      · rw [h]; exact Nat.le_refl _
      · exact Nat.le_of_lt ((val_lt_iff hb.1 hr).2 h)
end Go.Proofs.Ytpjefioopbnolaa
