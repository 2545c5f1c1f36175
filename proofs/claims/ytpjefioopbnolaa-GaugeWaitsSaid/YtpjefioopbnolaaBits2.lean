/- The contracts of math's Signbit, Inf, NaN, Copysign, Abs, IsNaN. -/
import Derived.Test.YtpjefioopbnolaaRows
import Derived.WalkKit
import Derived.WalkSpells
import Derived.WalkLawsBesides
import Derived.Handy
import Derived.Test.YtpjefioopbnolaaMem
import Derived.Test.YtpjefioopbnolaaFl
import Derived.Test.YtpjefioopbnolaaFlRun
namespace Go.Proofs.Ytpjefioopbnolaa
open Go.RowKit
set_option linter.unusedVariables false

open Fl
theorem tobits_eq (n : Nat) (W : World) : (callFunc 37 #[.float .f64 n]).run Try.prog W = .ok (.value (.int .u64 n)) W := by
  rw [@run_callFunc_extern Try.prog 37 _ Extern.MathFloatBits.float64bits Try.func37 (by kernel_rfl) (by kernel_rfl) (by kernel_rfl) (by kernel_rfl)]; rfl
theorem frombits_eq (n : Int) (W : World) : (callFunc 33 #[.int .u64 n]).run Try.prog W = .ok (.value (.float .f64 n.toNat)) W := by
  rw [@run_callFunc_extern Try.prog 33 _ Extern.MathFloatBits.float64frombits Try.func33 (by kernel_rfl) (by kernel_rfl) (by kernel_rfl) (by kernel_rfl)]; rfl

theorem minf_any (n : Int) (w : World) : Calls Try.prog 23 #[.int .i64 n] w fun e w' => e = .returned (.float .f64 (word (decide (n < 0)) inf)) ∧ w = w' := by
  have h2 := frombits_eq
  by_cases h : 0 ≤ n
  · rw [show decide (n < 0) = false from decide_eq_false (by omega)]
    go_enter Try.func23, Try.ntmps23
    go_wp2
    all_goals (go_ret; exact ⟨rfl, rfl⟩)
  · rw [show decide (n < 0) = true from decide_eq_true (by omega)]
    go_enter Try.func23, Try.ntmps23
    go_wp2
    all_goals (go_ret; exact ⟨rfl, rfl⟩)
theorem mnan_any (w : World) : Calls Try.prog 22 #[] w fun e w' => e = .returned (.float .f64 9221120237041090561) ∧ w = w' := by
  have h2 := frombits_eq
  go_enter Try.func22, Try.ntmps22
  go_wp2
  all_goals (go_ret; exact ⟨rfl, rfl⟩)
theorem isnan_any (x : Nat) (w : World) : Calls Try.prog 20 #[.float .f64 x] w fun e w' => e = .returned (.bool (isN x)) ∧ w = w' := by
  have a1 := (cmp_ne x x).trans (by rw [feq_self, Bool.not_not])
  generalize isN x = b at *
  go_enter Try.func20, Try.ntmps20
  go_wp2
  all_goals (go_ret; exact ⟨rfl, rfl⟩)
theorem abs_bits (x : Nat) (hx : x < 18446744073709551616) : bits .andNot .u64 (x : Int) 9223372036854775808 = ((rg x : Nat) : Int) := by
  have h := u64_andNot_nat x 9223372036854775808 hx (by decide)
  have e : x &&& (18446744073709551615 - 9223372036854775808) = x % 2 ^ 63 := Nat.and_two_pow_sub_one_eq_mod x 63
  rw [e] at h
  exact h
theorem abs_any (x : Nat) (hx : x < 18446744073709551616) (w : World) : Calls Try.prog 34 #[.float .f64 x] w fun e w' => e = .returned (.float .f64 (rg x)) ∧ w = w' := by
  have h1 := tobits_eq
  have h2 := frombits_eq
  have h3 := abs_bits x hx
  go_enter Try.func34, Try.ntmps34
  go_wp2
  go_ret
  exact ⟨rfl, rfl⟩
theorem signbit_any (x : Nat) (hx : x < 18446744073709551616) (w : World) : Calls Try.prog 32 #[.float .f64 x] w fun e w' => e = .returned (.bool (sg x)) ∧ w = w' := by
  have h1 := tobits_eq
  have h3 : decide (wrap64 (x : Int) < 0) = sg x := by
    unfold sg
    have e : wrap64 (x : Int) = if 9223372036854775808 ≤ (x : Int) then (x : Int) - 18446744073709551616 else x := by
      first | (unfold wrap64; split <;> omega) | (unfold wrap64; omega)
    rw [e]
    by_cases h : 9223372036854775808 ≤ (x : Int)
    · rw [if_pos h]
      have : x / 9223372036854775808 % 2 = 1 := by omega
      rw [this]; simp; omega
    · rw [if_neg h]
      have : x / 9223372036854775808 % 2 = 0 := by omega
      rw [this]; simp
  go_enter Try.func32, Try.ntmps32
  go_wp2
  go_ret
  exact ⟨rfl, rfl⟩
theorem copysign_c (w : World) : Calls Try.prog 26 #[.float .f64 0, .float .f64 13830554455654793216] w fun e w' => e = .returned (.float .f64 9223372036854775808) ∧ w = w' := by
  have h1 := tobits_eq
  have h2 := frombits_eq
  have h3 : (bits .or .u64 (bits .andNot .u64 (((0 : Nat)) : Int) 9223372036854775808) (bits .and .u64 ((13830554455654793216 : Nat) : Int) 9223372036854775808)).toNat = 9223372036854775808 := by decide +kernel
  go_enter Try.func26, Try.ntmps26
  go_wp2
  go_ret
  exact ⟨by first | rfl | exact congrArg (fun n => Ending.returned (Value.float .f64 n)) h3, rfl⟩
end Go.Proofs.Ytpjefioopbnolaa
