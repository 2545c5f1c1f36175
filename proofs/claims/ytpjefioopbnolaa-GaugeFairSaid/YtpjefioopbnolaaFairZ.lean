/- Plain law for GaugeFair: what the two calls of Fair give. -/
import Derived.Test.YtpjefioopbnolaaRows
import Derived.WalkKit
import Derived.WalkSpells
import Derived.WalkLawsBesides
import Derived.Handy
import Derived.Test.YtpjefioopbnolaaMem
import Derived.Test.YtpjefioopbnolaaFl
import Derived.Test.YtpjefioopbnolaaFlRun
import Derived.Test.YtpjefioopbnolaaAlike
import Derived.Test.YtpjefioopbnolaaApp
import Derived.Test.YtpjefioopbnolaaGauV
import Derived.Test.YtpjefioopbnolaaMaxG
import Derived.Test.YtpjefioopbnolaaBits2
import Derived.Test.YtpjefioopbnolaaInf
import Derived.Test.YtpjefioopbnolaaGauS
import Derived.Test.YtpjefioopbnolaaGrade
import Derived.Test.YtpjefioopbnolaaMost
import Derived.Test.YtpjefioopbnolaaFair
import Derived.Test.YtpjefioopbnolaaAw30
import Derived.Test.YtpjefioopbnolaaMeansP
import Derived.Test.YtpjefioopbnolaaMeansQ
import Derived.Test.YtpjefioopbnolaaMeansR
import Derived.Test.YtpjefioopbnolaaFairP
import Derived.Test.YtpjefioopbnolaaFairQ
namespace Go.Proofs.Ytpjefioopbnolaa
open Go.RowKit
set_option linter.unusedVariables false

open Fl
def alF (z : Nat → Int) : Nat → Bool
  | 0 => true
  | k + 1 => alF z k && (z k == z 0)
def soF (z : Nat → Int) : Nat → Bool
  | 0 => false
  | k + 1 => soF z k || decide (0 < z k)
theorem alF_iff (z : Nat → Int) (k : Nat) : alF z k = true ↔ ∀ i, i < k → z i = z 0 := by
  induction k with
  | zero => exact ⟨fun _ i hi => by omega, fun _ => rfl⟩
  | succ k ih =>
    unfold alF
    rw [Bool.and_eq_true, ih, beq_iff_eq]
    constructor
    · intro h i hi
      by_cases e : i = k
      · rw [e]; exact h.2
      · exact h.1 i (by omega)
    · intro h; exact ⟨fun i hi => h i (by omega), h k (by omega)⟩
theorem soF_iff {z : Nat → Int} (h0 : ∀ i, 0 ≤ z i) (k : Nat) : soF z k = false ↔ ∀ i, i < k → z i = 0 := by
  induction k with
  | zero => exact ⟨fun _ i hi => by omega, fun _ => rfl⟩
  | succ k ih =>
    have hk := h0 k
    unfold soF
    rw [Bool.or_eq_false_iff, ih, decide_eq_false_iff_not]
    constructor
    · intro h i hi
      by_cases e : i = k
      · rw [e]; omega
      · exact h.1 i (by omega)
    · intro h; exact ⟨fun i hi => h i (by omega), by have := h k (by omega); omega⟩
theorem toNat_mul {a b : Int} (h0 : 0 ≤ a) (h1 : 0 ≤ b) : (a * b).toNat = a.toNat * b.toNat := by
  obtain ⟨x, rfl⟩ := Int.eq_ofNat_of_zero_le h0
  obtain ⟨y, rfl⟩ := Int.eq_ofNat_of_zero_le h1
  rw [← Int.natCast_mul, Int.toNat_natCast, Int.toNat_natCast, Int.toNat_natCast]
theorem fair_say {z : Nat → Int} (h : ∀ i, 0 ≤ z i ∧ z i ≤ 255) {n : Nat} (t : Nat) (h1 : 1 ≤ n) (hn : n ≤ 40) :
    (soF z n = false → fairV (fun i => av (floatOfInt .f64 (z ((i + t) % n)))) n = some 4607182418800017408) ∧
    (soF z n = true → ∃ r m, fairV (fun i => av (floatOfInt .f64 (z ((i + t) % n)))) n = some r ∧ fairV (fun i => av (floatOfInt .f64 (2 * z i))) n = some r ∧ 1 ≤ r ∧ r ≤ 4607182418800017408 ∧
      feq r 4607182418800017408 = alF z n ∧ floatBits .mul .f64 r (floatOfInt .f64 (n : Int)) = some m ∧ m ≤ inf ∧ 4607182409792818153 ≤ m) := by
  have hS : sumZ (fun i => z ((i + t) % n)) n = sumZ z n := sum_turn z n t (by omega)
  have hQ : sqZ (fun i => z ((i + t) % n)) n = sqZ z n := sum_turn (fun i => z i * z i) n t (by omega)
  have f1 := fair_int (z := fun i => z ((i + t) % n)) (fun i => by have := h ((i + t) % n); omega) h1 hn
  have f2 := fair_int (z := fun i => 2 * z i) (fun i => by have := h i; omega) h1 hn
  rw [hS, hQ] at f1
  rw [(sum_twice z n).1, (sum_twice z n).2] at f2
  rw [f1, f2]
  have hz : sqZ z n = 0 ↔ soF z n = false := sqZ_zero.trans (soF_iff (fun i => (h i).1) n).symm
  refine ⟨fun e => by rw [if_pos (hz.2 e)], fun e => ?_⟩
  have hne : ¬ sqZ z n = 0 := fun h => by rw [hz.1 h] at e; cases e
  rw [if_neg hne, if_neg (by omega)]
  have b1 := sumZ_pos (M := 1000000) (z := fun i => z i * z i) (fun i => sq_bd (h i).1 (by have := h i; omega)) n
  have b2 := sumZ_pos (M := 1000) (z := z) (fun i => by have := h i; omega) n
  have c0 : 0 ≤ sqZ z n := b1.1
  have c1 : sqZ z n ≤ n * (1000000 : Nat) := b1.2
  have cs := cauchy z n
  have ci := cauchy_iff z n
  have sl := sq_le (fun i => (h i).1) n
  have e4 : (2 * sumZ z n * (2 * sumZ z n)).toNat = 4 * (sumZ z n * sumZ z n).toNat := by
    rw [show 2 * sumZ z n * (2 * sumZ z n) = 4 * (sumZ z n * sumZ z n) by grind]
    omega
  have e5 : ((n : Int) * (4 * sqZ z n)).toNat = 4 * ((n : Int) * sqZ z n).toNat := by
    rw [show (n : Int) * (4 * sqZ z n) = 4 * ((n : Int) * sqZ z n) by grind]
    omega
  have hnn : ((n : Int) * sqZ z n).toNat ≤ n * (sumZ z n * sumZ z n).toNat := by
    rw [toNat_mul (by omega) c0, Int.toNat_natCast]
    exact Nat.mul_le_mul_left n (by omega)
  have hD : (n : Int) * sqZ z n ≤ 40 * 40000000 := Int.mul_le_mul (by omega) (by omega) c0 (by omega)
  rw [e4, e5]
  generalize hA : sumZ z n * sumZ z n = A at *
  generalize hDD : (n : Int) * sqZ z n = D at *
  have hA1 : 1 ≤ A := by omega
  obtain ⟨r, g1, g2, g3, g4, g5⟩ := fq_facts (a := A.toNat) (d := D.toNat) (by omega) (by have := cs.1; omega) (by omega)
  obtain ⟨m, k1, k2, k3⟩ := g5 n h1 hn hnn
  refine ⟨r, m, g1, by rw [fq_four (by omega) (by have := cs.1; omega) (by have := cs.1; omega) (by omega)]; exact g1, g2, g3, ?_, k1, k2, k3⟩
  rw [feq_small (Nat.le_trans g3 one_lt) one_lt]
  have hal := alF_iff z n
  have hx : r = 4607182418800017408 ↔ alF z n = true := by
    rw [g4, hal, ← ci]
    have := cs.1
    omega
  cases hb : alF z n with
  | true => exact decide_eq_true (hx.2 hb)
  | false => exact decide_eq_false fun e => by rw [hx.1 e] at hb; cases hb
theorem two_f : floatOfInt .f64 2 = 4611686018427387904 := by decide +kernel
theorem twice_int {a : Int} (h0 : 0 ≤ a) (h : a ≤ 255) : floatBits .mul .f64 4611686018427387904 (floatOfInt .f64 a) = some (floatOfInt .f64 (2 * a)) := by
  rw [← two_f]; exact mul_int (by omega) h0 (by omega) (by omega)
end Go.Proofs.Ytpjefioopbnolaa
