/- Plain laws for GaugeFair: sums of squares, the quotient of whole numbers, its bounds and its scale. -/
import Derived.Test.YtpjefioopbnolaaRows
import Derived.WalkKit
import Derived.WalkSpells
import Derived.WalkLawsBesides
import Derived.Handy
import Derived.Test.YtpjefioopbnolaaMem
import Derived.Test.YtpjefioopbnolaaFl
import Derived.Test.YtpjefioopbnolaaFlRun
import Derived.Test.YtpjefioopbnolaaAlike
import Derived.Test.YtpjefioopbnolaaApp
import Derived.Test.YtpjefioopbnolaaGauV
import Derived.Test.YtpjefioopbnolaaMaxG
import Derived.Test.YtpjefioopbnolaaBits2
import Derived.Test.YtpjefioopbnolaaInf
import Derived.Test.YtpjefioopbnolaaGauS
import Derived.Test.YtpjefioopbnolaaGrade
import Derived.Test.YtpjefioopbnolaaMost
import Derived.Test.YtpjefioopbnolaaFair
import Derived.Test.YtpjefioopbnolaaAw30
import Derived.Test.YtpjefioopbnolaaMeansP
import Derived.Test.YtpjefioopbnolaaMeansQ
import Derived.Test.YtpjefioopbnolaaMeansR
namespace Go.Proofs.Ytpjefioopbnolaa
open Go.RowKit
set_option linter.unusedVariables false

set_option exponentiation.threshold 3000
open Fl
theorem mul_int {a b : Int} (h0 : 0 ≤ a) (h1 : 0 ≤ b) (ha : a.natAbs < 9007199254740992) (hb : b.natAbs < 9007199254740992) : floatBits .mul .f64 (floatOfInt .f64 a) (floatOfInt .f64 b) = some (floatOfInt .f64 (a * b)) := by
  have hB : 2 * B = 9007199254740992 := by decide
  show Ieee.double.mul _ _ = _
  rw [mul_num (by rw [rg_ofInt]; exact ru_lt (by omega)) (by rw [rg_ofInt]; exact ru_lt (by omega)), rg_ofInt, rg_ofInt, ru_val (by omega), ru_val (by omega), sg_ofInt, sg_ofInt, ofInt_eq]
  have e : a.natAbs * U * (b.natAbs * U) = (a * b).natAbs * U * U := by rw [Int.natAbs_mul]; simp only [Nat.mul_assoc, Nat.mul_left_comm, Nat.mul_comm]
  have h2 : 0 ≤ a * b := Int.mul_nonneg h0 h1
  rw [e, RU_scaleU, decide_eq_false (show ¬ a < 0 by omega), decide_eq_false (show ¬ b < 0 by omega), decide_eq_false (show ¬ a * b < 0 by omega)]
  rfl
/-- The sum of squares. -/
def sqZ (z : Nat → Int) : Nat → Int := sumZ fun i => z i * z i
theorem sq_bd {a : Int} (h0 : 0 ≤ a) (h : a ≤ 1000) : 0 ≤ a * a ∧ a * a ≤ 1000000 := by
  have := Int.mul_le_mul h h h0 (by omega)
  exact ⟨Int.mul_nonneg h0 h0, this⟩
theorem sumZ_pos {z : Nat → Int} {M : Nat} (h : ∀ i, 0 ≤ z i ∧ z i ≤ M) (k : Nat) : 0 ≤ sumZ z k ∧ sumZ z k ≤ k * M := by
  induction k with
  | zero => simp [sumZ]
  | succ k ih =>
    have := h k
    unfold sumZ
    rw [Int.natCast_succ, Int.add_mul, Int.one_mul]; omega
theorem QV_int {z : Nat → Int} (h : ∀ i, 0 ≤ z i ∧ z i ≤ 1000) {k : Nat} (hk : k ≤ 1000) : QV (fun i => av (floatOfInt .f64 (z i))) k = some (floatOfInt .f64 (sqZ z k)) := by
  induction k with
  | zero => show some 0 = some (floatOfInt .f64 0); rw [ofInt_zero]
  | succ k ih =>
    have b1 := sumZ_pos (M := 1000000) (z := fun i => z i * z i) (fun i => sq_bd (h i).1 (h i).2) k
    have b2 := sq_bd (h k).1 (h k).2
    have b3 := h k
    have b4 : (k : Int) * (1000000 : Nat) ≤ 1000000000 := by omega
    show opV .add (QV _ k) (opV .mul (av (floatOfInt .f64 (z k))) (av (floatOfInt .f64 (z k)))) = _
    rw [ih (by omega), av_int]
    have e : opV .mul (some (floatOfInt .f64 (z k))) (some (floatOfInt .f64 (z k))) = some (floatOfInt .f64 (z k * z k)) := mul_int b3.1 b3.1 (by omega) (by omega)
    rw [e]
    exact add_int (by show (sumZ (fun i => z i * z i) k).natAbs < _; omega) (by omega)
def fq (a d : Nat) : Option Nat := floatBits .quo .f64 (floatOfInt .f64 (a : Int)) (floatOfInt .f64 (d : Int))
theorem isz_int {a : Int} (ha : a.natAbs < 9007199254740992) : isz (some (floatOfInt .f64 a)) = decide (a = 0) := by
  show feq (floatOfInt .f64 a) 0 = _
  rw [feq_zero (ofInt_isN a), rg_ofInt]
  exact decide_eq_decide.2 ((ru_zero_iff ha).trans (by omega))
/-- How fair whole numbers are. -/
theorem fair_int {z : Nat → Int} (h : ∀ i, 0 ≤ z i ∧ z i ≤ 1000) {k : Nat} (h1 : 1 ≤ k) (hk : k ≤ 40) :
    fairV (fun i => av (floatOfInt .f64 (z i))) k = if sqZ z k = 0 then some 4607182418800017408 else fq (sumZ z k * sumZ z k).toNat ((k : Int) * sqZ z k).toNat := by
  have b1 := sumZ_pos (M := 1000000) (z := fun i => z i * z i) (fun i => sq_bd (h i).1 (h i).2) k
  have b2 := sumZ_pos (M := 1000) h k
  have b3 : 0 ≤ sqZ z k ∧ sqZ z k ≤ 40000000 := ⟨b1.1, by have := b1.2; show sumZ (fun i => z i * z i) k ≤ _; omega⟩
  have b4 : 0 ≤ sumZ z k ∧ sumZ z k ≤ 40000 := ⟨b2.1, by omega⟩
  unfold fairV
  rw [QV_int h (by omega), isz_int (by omega), SV_int (fun i => by have := h i; omega) (by omega)]
  by_cases e : sqZ z k = 0
  · rw [if_pos e, decide_eq_true e, if_pos rfl]
  · rw [if_neg e, decide_eq_false e, if_neg (by simp)]
    have m1 : opV .mul (some (floatOfInt .f64 (sumZ z k))) (some (floatOfInt .f64 (sumZ z k))) = some (floatOfInt .f64 (sumZ z k * sumZ z k)) := mul_int b4.1 b4.1 (by omega) (by omega)
    have m2 : opV .mul (some (floatOfInt .f64 (k : Int))) (some (floatOfInt .f64 (sqZ z k))) = some (floatOfInt .f64 ((k : Int) * sqZ z k)) := mul_int (by omega) b3.1 (by omega) (by omega)
    rw [m1, m2]
    unfold fq
    rw [Int.toNat_of_nonneg (Int.mul_nonneg b4.1 b4.1), Int.toNat_of_nonneg (Int.mul_nonneg (by omega) b3.1)]
    rfl
/-! Cauchy and Schwarz -/
theorem spread (z : Nat → Int) (y : Int) (k : Nat) : sumZ (fun i => (z i - y) * (z i - y)) k = sqZ z k - 2 * sumZ z k * y + (k : Int) * (y * y) := by
  induction k with
  | zero => simp [sumZ, sqZ]
  | succ k ih =>
    show sumZ _ k + (z k - y) * (z k - y) = (sqZ z k + z k * z k) - 2 * (sumZ z k + z k) * y + ((k + 1 : Nat) : Int) * (y * y)
    rw [ih, Int.natCast_succ]
    generalize sqZ z k = Q
    generalize sumZ z k = S
    generalize (k : Int) = n
    generalize z k = x
    grind
theorem sq_nonneg (a : Int) : 0 ≤ a * a := by
  rcases Int.le_total 0 a with h | h
  · exact Int.mul_nonneg h h
  · exact Int.mul_nonneg_of_nonpos_of_nonpos h h
theorem sumZ_nonneg {z : Nat → Int} (h : ∀ i, 0 ≤ z i) (k : Nat) : 0 ≤ sumZ z k ∧ (sumZ z k = 0 → ∀ i, i < k → z i = 0) := by
  induction k with
  | zero => exact ⟨Int.le_refl _, fun _ i hi => by omega⟩
  | succ k ih =>
    have := h k
    refine ⟨by show 0 ≤ sumZ z k + z k; omega, fun e i hi => ?_⟩
    have e' : sumZ z k + z k = 0 := e
    by_cases hik : i = k
    · subst hik; omega
    · exact ih.2 (by omega) i (by omega)
theorem cauchy (z : Nat → Int) (k : Nat) : sumZ z k * sumZ z k ≤ (k : Int) * sqZ z k ∧ (sumZ z k * sumZ z k = (k : Int) * sqZ z k → ∀ i j, i < k → j < k → z i = z j) := by
  induction k with
  | zero => exact ⟨by simp [sumZ], fun _ i j hi => by omega⟩
  | succ k ih =>
    have hs := spread z (z k) k
    have hp := sumZ_nonneg (z := fun i => (z i - z k) * (z i - z k)) (fun i => sq_nonneg _) k
    have e1 : sumZ z (k + 1) = sumZ z k + z k := rfl
    have e2 : sqZ z (k + 1) = sqZ z k + z k * z k := rfl
    have e3 : ((k + 1 : Nat) : Int) * sqZ z (k + 1) - sumZ z (k + 1) * sumZ z (k + 1) = ((k : Int) * sqZ z k - sumZ z k * sumZ z k) + sumZ (fun i => (z i - z k) * (z i - z k)) k := by
      rw [hs, e1, e2, Int.natCast_succ]
      generalize sqZ z k = Q
      generalize sumZ z k = S
      generalize (k : Int) = n
      generalize z k = x
      grind
    have h1 := ih.1
    have h2 := hp.1
    refine ⟨by omega, fun e => ?_⟩
    have h3 := hp.2 (by omega)
    have h4 : ∀ i, i < k → z i = z k := fun i hi => by
      have := Int.mul_eq_zero.1 (h3 i hi)
      omega
    intro i j hi hj
    by_cases hik : i = k
    · by_cases hjk : j = k
      · rw [hik, hjk]
      · rw [hik, h4 j (by omega)]
    · by_cases hjk : j = k
      · rw [hjk, h4 i (by omega)]
      · rw [h4 i (by omega), h4 j (by omega)]
theorem alike_eq {z : Nat → Int} {k : Nat} (h : ∀ i, i < k → z i = z 0) : sumZ z k = (k : Int) * z 0 ∧ sqZ z k = (k : Int) * (z 0 * z 0) := by
  induction k with
  | zero => simp [sumZ, sqZ]
  | succ k ih =>
    have := ih fun i hi => h i (by omega)
    have e1 : sumZ z (k + 1) = sumZ z k + z k := rfl
    have e2 : sqZ z (k + 1) = sqZ z k + z k * z k := rfl
    rw [e1, e2, this.1, this.2, h k (by omega), Int.natCast_succ, Int.add_mul, Int.add_mul, Int.one_mul, Int.one_mul]
    exact ⟨rfl, rfl⟩
theorem cauchy_iff (z : Nat → Int) (k : Nat) : sumZ z k * sumZ z k = (k : Int) * sqZ z k ↔ ∀ i, i < k → z i = z 0 := by
  constructor
  · intro h i hi; exact (cauchy z k).2 h i 0 hi (by omega)
  · intro h
    rw [(alike_eq h).1, (alike_eq h).2]
    generalize (k : Int) = n
    generalize z 0 = x
    grind
/-- The square of a sum of numbers from nought on is no less than the sum of the squares. -/
theorem sq_le {z : Nat → Int} (h : ∀ i, 0 ≤ z i) (k : Nat) : sqZ z k ≤ sumZ z k * sumZ z k := by
  induction k with
  | zero => simp [sumZ, sqZ]
  | succ k ih =>
    have e1 : sumZ z (k + 1) = sumZ z k + z k := rfl
    have e2 : sqZ z (k + 1) = sqZ z k + z k * z k := rfl
    have h1 := Int.mul_nonneg (sumZ_nonneg h k).1 (h k)
    rw [e1, e2]
    have : (sumZ z k + z k) * (sumZ z k + z k) = sumZ z k * sumZ z k + 2 * (sumZ z k * z k) + z k * z k := by grind
    omega
theorem sqZ_zero {z : Nat → Int} {k : Nat} : sqZ z k = 0 ↔ ∀ i, i < k → z i = 0 := by
  constructor
  · intro e i hi
    have := (sumZ_nonneg (z := fun i => z i * z i) (fun i => sq_nonneg _) k).2 e i hi
    rcases Int.mul_eq_zero.1 this with h | h <;> exact h
  · intro h
    induction k with
    | zero => rfl
    | succ k ih =>
      have e2 : sqZ z (k + 1) = sqZ z k + z k * z k := rfl
      rw [e2, ih fun i hi => h i (by omega), h k (by omega)]; rfl
/-! another order, twice as much -/
theorem sum_shift (u : Nat → Int) (n : Nat) : sumZ (fun i => u (i + 1)) n = sumZ u n + u n - u 0 := by
  induction n with
  | zero => show (0 : Int) = 0 + u 0 - u 0; omega
  | succ n ih =>
    show sumZ (fun i => u (i + 1)) n + u (n + 1) = sumZ u n + u n + u (n + 1) - u 0
    rw [ih]; omega
theorem sumZ_congr {u v : Nat → Int} {n : Nat} (h : ∀ i, i < n → u i = v i) : sumZ u n = sumZ v n := by
  induction n with
  | zero => rfl
  | succ n ih =>
    show sumZ u n + u n = sumZ v n + v n
    rw [ih fun i hi => h i (by omega), h n (by omega)]
theorem sum_turn (z : Nat → Int) (n t : Nat) (hn : 0 < n) : sumZ (fun i => z ((i + t) % n)) n = sumZ z n := by
  induction t with
  | zero => exact sumZ_congr fun i hi => by rw [Nat.add_zero, Nat.mod_eq_of_lt hi]
  | succ t ih =>
    have := sum_shift (fun i => z ((i + t) % n)) n
    rw [ih] at this
    have e : (fun i => z ((i + (t + 1)) % n)) = fun i => z ((i + 1 + t) % n) := by funext i; rw [show i + (t + 1) = i + 1 + t by omega]
    rw [e, this, Nat.zero_add, Nat.add_mod_left]; omega
theorem sum_twice (z : Nat → Int) (n : Nat) : sumZ (fun i => 2 * z i) n = 2 * sumZ z n ∧ sqZ (fun i => 2 * z i) n = 4 * sqZ z n := by
  induction n with
  | zero => exact ⟨rfl, rfl⟩
  | succ n ih =>
    have e1 : sumZ z (n + 1) = sumZ z n + z n := rfl
    have e2 : sqZ z (n + 1) = sqZ z n + z n * z n := rfl
    refine ⟨?_, ?_⟩
    · show sumZ (fun i => 2 * z i) n + 2 * z n = _
      rw [ih.1, e1]; omega
    · show sqZ (fun i => 2 * z i) n + 2 * z n * (2 * z n) = _
      rw [ih.2, e2]; grind
end Go.Proofs.Ytpjefioopbnolaa
