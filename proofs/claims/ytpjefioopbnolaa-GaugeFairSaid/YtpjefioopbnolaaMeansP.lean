/- Plain laws: sums, the greatest and the mean of whole numbers as floats. -/
import Derived.Test.YtpjefioopbnolaaRows
import Derived.WalkKit
import Derived.WalkSpells
import Derived.WalkLawsBesides
import Derived.Handy
import Derived.Test.YtpjefioopbnolaaMem
import Derived.Test.YtpjefioopbnolaaFl
import Derived.Test.YtpjefioopbnolaaFlRun
import Derived.Test.YtpjefioopbnolaaApp
import Derived.Test.YtpjefioopbnolaaGauV
import Derived.Test.YtpjefioopbnolaaMaxG
import Derived.Test.YtpjefioopbnolaaBits2
import Derived.Test.YtpjefioopbnolaaGauS
import Derived.Test.YtpjefioopbnolaaMost
namespace Go.Proofs.Ytpjefioopbnolaa
open Go.RowKit
set_option linter.unusedVariables false

set_option linter.unusedSimpArgs false
open Fl
theorem sv_int {a : Int} (h : a.natAbs < 9007199254740992) : sv (floatOfInt .f64 a) = a * (U : Nat) := by
  have hB : 2 * B = 9007199254740992 := by decide
  unfold sv
  rw [sg_ofInt, rg_ofInt, ru_val (by omega)]
  by_cases h0 : a < 0
  · rw [decide_eq_true h0, if_pos rfl]
    have : a = -((a.natAbs : Nat) : Int) := by omega
    rw [Int.natCast_mul]
    generalize a.natAbs = n at *
    subst this
    rw [Int.neg_mul]
  · rw [decide_eq_false h0, if_neg (by simp)]
    have : a = ((a.natAbs : Nat) : Int) := by omega
    rw [Int.natCast_mul]
    generalize a.natAbs = n at *
    subst this; rfl
theorem add_int {a b : Int} (ha : a.natAbs < 4503599627370496) (hb : b.natAbs < 4503599627370496) : floatBits .add .f64 (floatOfInt .f64 a) (floatOfInt .f64 b) = some (floatOfInt .f64 (a + b)) := by
  have hB : 2 * B = 9007199254740992 := by decide
  show Ieee.double.add _ _ = _
  rw [add_num (by rw [rg_ofInt]; exact ru_lt (by omega)) (by rw [rg_ofInt]; exact ru_lt (by omega)), sv_int (by omega), sv_int (by omega), sg_ofInt, sg_ofInt, ← Int.add_mul, ofInt_eq]
  have hU : (0 : Int) < (U : Nat) := by have := U_pos; omega
  have e1 : ((a + b) * (U : Nat) : Int).natAbs = (a + b).natAbs * U := by rw [Int.natAbs_mul, Int.natAbs_natCast]
  have e2 : ((a + b) * (U : Nat) = 0) = (a + b = 0) := propext ⟨fun h => by rcases Int.mul_eq_zero.1 h with h | h <;> omega, fun h => by rw [h, Int.zero_mul]⟩
  have e3 : ((a + b) * (U : Nat) < 0) = (a + b < 0) := propext ⟨fun h => by
    apply Int.lt_of_not_ge; intro h2
    have := Int.mul_nonneg h2 (Int.le_of_lt hU)
    omega, fun h => Int.mul_neg_of_neg_of_pos h hU⟩
  rw [e1]
  simp only [e2, e3]
  congr 2
  by_cases h : a + b = 0
  · rw [if_pos h]
    by_cases h1 : a < 0
    · rw [decide_eq_true h1, decide_eq_false (show ¬ b < 0 by omega), decide_eq_false (show ¬ a + b < 0 by omega)]; rfl
    · rw [decide_eq_false h1, decide_eq_false (show ¬ a + b < 0 by omega)]; rfl
  · rw [if_neg h]
/-- The sum of the first k. -/
def sumZ (z : Nat → Int) : Nat → Int
  | 0 => 0
  | k + 1 => sumZ z k + z k
theorem ofInt_isN (a : Int) : isN (floatOfInt .f64 a) = false := by
  unfold isN; rw [rg_ofInt]
  have := RU_le_inf (a.natAbs * U) 0
  unfold ru; simpa using this
theorem av_int (a : Int) : av (floatOfInt .f64 a) = some (floatOfInt .f64 a) := by unfold av; rw [ofInt_isN]; rfl
theorem sumZ_bd {z : Nat → Int} {M : Nat} (h : ∀ i, (z i).natAbs ≤ M) (k : Nat) : (sumZ z k).natAbs ≤ k * M := by
  induction k with
  | zero => simp [sumZ]
  | succ k ih =>
    have := h k
    unfold sumZ
    rw [Nat.add_mul, Nat.one_mul]
    omega
theorem SV_int {z : Nat → Int} (h : ∀ i, (z i).natAbs ≤ 100000) {k : Nat} (hk : k ≤ 1000) : SV (fun i => av (floatOfInt .f64 (z i))) k = some (floatOfInt .f64 (sumZ z k)) := by
  induction k with
  | zero => show some 0 = some (floatOfInt .f64 0); rw [ofInt_zero]
  | succ k ih =>
    have b1 := sumZ_bd h k
    have b2 := h k
    have b3 : k * 100000 ≤ 100000000 := by omega
    by_cases h0 : k = 0
    · subst h0
      show av (floatOfInt .f64 (z 0)) = some (floatOfInt .f64 (0 + z 0))
      rw [av_int, Int.zero_add]
    · rw [SV_succ _ (by omega), ih (by omega), av_int]
      exact add_int (by omega) (by omega)
theorem key_int {a : Int} : Fl.key (floatOfInt .f64 a) = if a < 0 then -((ru a.natAbs : Nat) : Int) else ((ru a.natAbs : Nat) : Int) := by
  unfold Fl.key
  rw [sg_ofInt, rg_ofInt]
  by_cases h : a < 0 <;> simp [h]
theorem ru_lt_iff {m n : Nat} (hm : m < 9007199254740992) (hn : n < 9007199254740992) : ru m < ru n ↔ m < n := by
  have hB : 2 * B = 9007199254740992 := by decide
  have v1 := ru_val (n := m) (by omega)
  have v2 := ru_val (n := n) (by omega)
  have l1 := ru_lt (n := m) (by omega)
  have l2 := ru_lt (n := n) (by omega)
  rw [← val_lt_iff (Nat.le_of_lt l1) (Nat.le_of_lt l2), v1, v2]
  exact Nat.mul_lt_mul_right U_pos
theorem key_lt_int {a b : Int} (ha : a.natAbs < 9007199254740992) (hb : b.natAbs < 9007199254740992) : Fl.key (floatOfInt .f64 a) < Fl.key (floatOfInt .f64 b) ↔ a < b := by
  have h1 := ru_lt_iff ha hb
  have h2 := ru_lt_iff hb ha
  have h3 := ru_lt_iff (m := 0) (n := b.natAbs) (by omega) hb
  have h4 := ru_lt_iff (m := 0) (n := a.natAbs) (by omega) ha
  have z : ru 0 = 0 := by unfold ru; rw [Nat.zero_mul, RU_zero]
  rw [z] at h3 h4
  rw [key_int, key_int]
  split <;> split <;> omega
theorem flt_int {a b : Int} (ha : a.natAbs < 9007199254740992) (hb : b.natAbs < 9007199254740992) : flt (floatOfInt .f64 a) (floatOfInt .f64 b) = decide (a < b) := by
  unfold flt; rw [ofInt_isN, ofInt_isN]
  have := key_lt_int ha hb
  simp only [Bool.not_false, Bool.true_and]
  exact decide_eq_decide.2 this
def maxZ (z : Nat → Int) : Nat → Int
  | 0 => z 0
  | k + 1 => max (maxZ z k) (z (k + 1))
theorem ru_zero_iff {n : Nat} (h : n < 9007199254740992) : ru n = 0 ↔ n = 0 := by
  have h3 := ru_lt_iff (m := 0) (n := n) (by omega) h
  have z : ru 0 = 0 := by unfold ru; rw [Nat.zero_mul, RU_zero]
  rw [z] at h3
  generalize ru n = r at *
  omega
theorem most_step {a b : Int} (ha : a.natAbs ≤ 100000) (hb : b.natAbs ≤ 100000) : mostS (floatOfInt .f64 a) (floatOfInt .f64 b) = floatOfInt .f64 (max a b) := by
  unfold mostS
  have z1 : (ru b.natAbs = 0) = (b = 0) := propext ((ru_zero_iff (by omega)).trans (by omega))
  have z2 : (ru a.natAbs = 0) = (a = 0) := propext ((ru_zero_iff (by omega)).trans (by omega))
  rw [flt_int (by omega) (by omega), rg_ofInt, rg_ofInt, sg_ofInt]
  simp only [z1, z2]
  by_cases h : a < b
  · rw [decide_eq_true h, Int.max_eq_right (by omega), Bool.true_or, if_pos rfl]
  · rw [decide_eq_false h, Int.max_eq_left (by omega), Bool.false_or]
    by_cases h5 : b = 0
    · by_cases h6 : a = 0
      · subst h5; subst h6; simp
      · simp [h6]
    · simp [h5]
theorem most_int {z : Nat → Int} (h : ∀ i, (z i).natAbs ≤ 100000) (k : Nat) : mostR (fun i => floatOfInt .f64 (z i)) (k + 1) = floatOfInt .f64 (maxZ z k) ∧ (maxZ z k).natAbs ≤ 100000 := by
  induction k with
  | zero =>
    refine ⟨?_, h 0⟩
    show mostS 18442240474082181120 (floatOfInt .f64 (z 0)) = floatOfInt .f64 (z 0)
    unfold mostS
    have b0 := h 0
    have hB : 2 * B = 9007199254740992 := by decide
    have hl := ru_lt (n := (z 0).natAbs) (by omega)
    have hi : inf = 9218868437227405312 := rfl
    have : flt 18442240474082181120 (floatOfInt .f64 (z 0)) = true := by
      unfold flt
      have n1 : isN 18442240474082181120 = false := by decide
      have k1 : Fl.key 18442240474082181120 = -9218868437227405312 := by decide
      rw [n1, ofInt_isN, k1, key_int]
      simp only [Bool.not_false, Bool.true_and, decide_eq_true_eq]
      split <;> omega
    rw [this]; rfl
  | succ k ih =>
    have b1 := h (k + 1)
    refine ⟨?_, by show (max (maxZ z k) (z (k + 1))).natAbs ≤ 100000; have := ih.2; omega⟩
    show mostS (mostR (fun i => floatOfInt .f64 (z i)) (k + 1)) (floatOfInt .f64 (z (k + 1))) = floatOfInt .f64 (max (maxZ z k) (z (k + 1)))
    rw [ih.1, most_step ih.2 b1]
end Go.Proofs.Ytpjefioopbnolaa
