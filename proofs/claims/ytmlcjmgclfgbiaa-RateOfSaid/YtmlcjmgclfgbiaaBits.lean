/- The contracts of math's Signbit, Inf, NaN, Copysign, Abs, IsInf, IsNaN, Max. -/
import Derived.Test.YtmlcjmgclfgbiaaRows
import Derived.WalkKit
import Derived.WalkSpells
import Derived.WalkLawsBesides
import Derived.Handy
import Derived.Test.YtmlcjmgclfgbiaaMem
import Derived.Test.YtmlcjmgclfgbiaaFl
import Derived.Test.YtmlcjmgclfgbiaaFlRun
import Derived.Test.YtmlcjmgclfgbiaaOf
namespace Go.Proofs.Ytmlcjmgclfgbiaa
open Go.RowKit
set_option linter.unusedVariables false

open Fl
theorem tobits_eq (n : Nat) (W : World) : (callFunc 50 #[.float .f64 n]).run Try.prog W = .ok (.value (.int .u64 n)) W := by
  rw [@run_callFunc_extern Try.prog 50 _ Extern.MathFloatBits.float64bits Try.func50 (by kernel_rfl) (by kernel_rfl) (by kernel_rfl) (by kernel_rfl)]; rfl
theorem frombits_eq (n : Int) (W : World) : (callFunc 47 #[.int .u64 n]).run Try.prog W = .ok (.value (.float .f64 n.toNat)) W := by
  rw [@run_callFunc_extern Try.prog 47 _ Extern.MathFloatBits.float64frombits Try.func47 (by kernel_rfl) (by kernel_rfl) (by kernel_rfl) (by kernel_rfl)]; rfl

theorem minf_any (n : Int) (w : World) : Calls Try.prog 28 #[.int .i64 n] w fun e w' => e = .returned (.float .f64 (word (decide (n < 0)) inf)) ∧ w = w' := by
  have h2 := frombits_eq
  by_cases h : 0 ≤ n
  · rw [show decide (n < 0) = false from decide_eq_false (by omega)]
    go_enter Try.func28, Try.ntmps28
    go_wp2
    all_goals (go_ret; exact ⟨rfl, rfl⟩)
  · rw [show decide (n < 0) = true from decide_eq_true (by omega)]
    go_enter Try.func28, Try.ntmps28
    go_wp2
    all_goals (go_ret; exact ⟨rfl, rfl⟩)
theorem mnan_any (w : World) : Calls Try.prog 29 #[] w fun e w' => e = .returned (.float .f64 9221120237041090561) ∧ w = w' := by
  have h2 := frombits_eq
  go_enter Try.func29, Try.ntmps29
  go_wp2
  all_goals (go_ret; exact ⟨rfl, rfl⟩)
theorem isnan_any (x : Nat) (w : World) : Calls Try.prog 33 #[.float .f64 x] w fun e w' => e = .returned (.bool (isN x)) ∧ w = w' := by
  have a1 := (cmp_ne x x).trans (by rw [feq_self, Bool.not_not])
  generalize isN x = b at *
  go_enter Try.func33, Try.ntmps33
  go_wp2
  all_goals (go_ret; exact ⟨rfl, rfl⟩)
theorem abs_bits (x : Nat) (hx : x < 18446744073709551616) : bits .andNot .u64 (x : Int) 9223372036854775808 = ((rg x : Nat) : Int) := by
  have h := u64_andNot_nat x 9223372036854775808 hx (by decide)
  have e : x &&& (18446744073709551615 - 9223372036854775808) = x % 2 ^ 63 := Nat.and_two_pow_sub_one_eq_mod x 63
  rw [e] at h
  exact h
theorem abs_any (x : Nat) (hx : x < 18446744073709551616) (w : World) : Calls Try.prog 31 #[.float .f64 x] w fun e w' => e = .returned (.float .f64 (rg x)) ∧ w = w' := by
  have h1 := tobits_eq
  have h2 := frombits_eq
  have h3 := abs_bits x hx
  go_enter Try.func31, Try.ntmps31
  go_wp2
  go_ret
  exact ⟨rfl, rfl⟩
theorem signbit_any (x : Nat) (hx : x < 18446744073709551616) (w : World) : Calls Try.prog 27 #[.float .f64 x] w fun e w' => e = .returned (.bool (sg x)) ∧ w = w' := by
  have h1 := tobits_eq
  have h3 : decide (wrap64 (x : Int) < 0) = sg x := by
    unfold sg
    have e : wrap64 (x : Int) = if 9223372036854775808 ≤ (x : Int) then (x : Int) - 18446744073709551616 else x := by
      first | (unfold wrap64; split <;> omega) | (unfold wrap64; omega)
    rw [e]
    by_cases h : 9223372036854775808 ≤ (x : Int)
    · rw [if_pos h]
      have : x / 9223372036854775808 % 2 = 1 := by omega
      rw [this]; simp; omega
    · rw [if_neg h]
      have : x / 9223372036854775808 % 2 = 0 := by omega
      rw [this]; simp
  go_enter Try.func27, Try.ntmps27
  go_wp2
  go_ret
  exact ⟨rfl, rfl⟩
theorem copysign_c (w : World) : Calls Try.prog 30 #[.float .f64 0, .float .f64 13830554455654793216] w fun e w' => e = .returned (.float .f64 9223372036854775808) ∧ w = w' := by
  have h1 := tobits_eq
  have h2 := frombits_eq
  have h3 : (bits .or .u64 (bits .andNot .u64 (((0 : Nat)) : Int) 9223372036854775808) (bits .and .u64 ((13830554455654793216 : Nat) : Int) 9223372036854775808)).toNat = 9223372036854775808 := by decide +kernel
  go_enter Try.func30, Try.ntmps30
  go_wp2
  go_ret
  exact ⟨by first | rfl | exact congrArg (fun n => Ending.returned (Value.float .f64 n)) h3, rfl⟩

theorem archmax_eq (p q : Nat) (hp : p ≤ inf) (hq : q ≤ inf) (W : World) : (callFunc 55 #[.float .f64 p, .float .f64 q]).run Try.prog W = .ok (.value (.float .f64 (max p q))) W := by
  rw [@run_callFunc_extern Try.prog 55 _ (Extern.MathDim.pick "math.archMax" false .gt) Try.func55 (by kernel_rfl) (by kernel_rfl) (by kernel_rfl) (by kernel_rfl)]
  have e : (Extern.MathDim.pick "math.archMax" false .gt #[Value.float .f64 p, Value.float .f64 q]).run Try.prog W = .ok (Value.float .f64 (max p q)) W := by
    conv => lhs; arg 2; whnf
    refine congrArg (fun r => Result.ok (Value.float .f64 r) W) ?_
    have dp : FloatKind.f64.decode p = Ieee.double.read p := rfl
    have dq : FloatKind.f64.decode q = Ieee.double.read q := rfl
    have ei : FloatKind.f64.encode (.infinity false) = inf := rfl
    rw [dp, dq, ei]
    rcases Nat.lt_or_eq_of_le hp with h1 | h1
    · rcases Nat.lt_or_eq_of_le hq with h2 | h2
      · have o := order_num (x := p) (y := q) (by rw [small_rg hp]; exact hp) (by rw [small_rg hq]; exact hq)
        have kp : Fl.key p = p := by unfold Fl.key; rw [small_sg hp, small_rg hp]; rfl
        have kq : Fl.key q = q := by unfold Fl.key; rw [small_sg hq, small_rg hq]; rfl
        rw [kp, kq] at o
        have o' : (Ieee.double.read p).order (Ieee.double.read q) = some (compare (p : Int) (q : Int)) := o
        rw [o']
        rw [read_num (x := p) (by rw [small_rg hp]; exact h1), read_num (x := q) (by rw [small_rg hq]; exact h2), small_sg hp, small_sg hq]
        have n1 : ∀ (s : Bool) (m : Nat) (e : Int), ((Ieee.Datum.number s m e == .infinity false) = false) := by intro s m e; rfl
        rw [n1, n1]
        simp only [Bool.or_false, Bool.false_eq_true, if_false, Ieee.Datum.isNaN, Ieee.Datum.neg, beq_self_eq_true, if_true]
        by_cases hlt : q < p
        · rw [Int.compare_eq_gt.2 (by omega)]
          simp
          omega
        · have ng : compare (p : Int) (q : Int) ≠ .gt := fun h => hlt (by have := Int.compare_eq_gt.1 h; omega)
          have ng' : (some (compare (p : Int) (q : Int)) == some Ordering.gt) = false := by simpa using ng
          rw [ng']
          by_cases hz : p = 0
          · by_cases hz2 : q = 0
            · subst hz; subst hz2; simp
            · have : (Ieee.Datum.number false (mag (rg q)) (-1074 + ↑(up (rg q)))).isZero = false := by
                have hm := mag_ne (r := rg q) (by rw [small_rg hq]; exact hz2)
                generalize mag (rg q) = m at *
                unfold Ieee.Datum.isZero
                cases m with
                | zero => exact absurd rfl hm
                | succ m => rfl
              rw [this]; simp; omega
          · have : (Ieee.Datum.number false (mag (rg p)) (-1074 + ↑(up (rg p)))).isZero = false := by
              have hm := mag_ne (r := rg p) (by rw [small_rg hp]; exact hz)
              generalize mag (rg p) = m at *
              unfold Ieee.Datum.isZero
              cases m with
              | zero => exact absurd rfl hm
              | succ m => rfl
            rw [this]; simp; omega
      · rw [read_inf (x := q) (by rw [small_rg hq]; exact h2), small_sg hq]
        have : (Ieee.Datum.infinity false == .infinity false) = true := rfl
        rw [this]; simp; omega
    · rw [read_inf (x := p) (by rw [small_rg hp]; exact h1), small_sg hp]
      have : (Ieee.Datum.infinity false == .infinity false) = true := rfl
      rw [this]; simp; omega
  rw [e]; rfl
theorem max_any (p q : Nat) (hp : p ≤ inf) (hq : q ≤ inf) (w : World) : Calls Try.prog 49 #[.float .f64 p, .float .f64 q] w fun e w' => e = .returned (.float .f64 (max p q)) ∧ w = w' := by
  have h1 := archmax_eq p q hp hq
  generalize max p q = r at *
  go_enter Try.func49, Try.ntmps49
  go_wp2
  go_ret
  exact ⟨rfl, rfl⟩
