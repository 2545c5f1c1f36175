/- The contracts of rate.Clean, math.Floor and rate.Move. -/
import Derived.Test.YtpmpamipcedioaaRows
import Derived.WalkKit
import Derived.WalkSpells
import Derived.WalkLawsBesides
import Derived.Handy
import Derived.Test.YtpmpamipcedioaaMem
import Derived.Test.YtpmpamipcedioaaFl
namespace Go.Proofs.Ytpmpamipcedioaa
open Go.RowKit
set_option linter.unusedVariables false

open Fl

theorem clean_any (x : Nat) (w : World) :
    Calls Try.prog 29 #[.float .f64 x] w fun e w' => e = .returned (.float .f64 (cl x)) ∧ w = w' := by
  have a1 := (cmp_ne x x).trans (by rw [feq_self, Bool.not_not])
  have a2 := cmp_lt x 0
  have a3 := cmp_eq x 0
  have a4 := cmp_gt x 4625196817309499392
  obtain ⟨v, hv⟩ : ∃ v, cl x = v := ⟨_, rfl⟩
  rw [hv]
  unfold cl at hv
  generalize isN x = b1 at *
  generalize flt x 0 = b2 at *
  generalize feq x 0 = b3 at *
  generalize flt 4625196817309499392 x = b4 at *
  cases b1 <;> cases b2 <;> cases b3 <;> cases b4 <;> simp only [Bool.false_eq_true, Bool.or_false, Bool.or_true, if_true, if_false] at hv <;> subst hv
  all_goals (
    go_enter Try.func29, Try.ntmps29
    go_wp2
    all_goals (go_ret; exact ⟨rfl, rfl⟩))

theorem floor_any (x : Nat) (hx : isN x = false) (w : World) :
    Calls Try.prog 28 #[.float .f64 x] w fun e w' => e = .returned (.float .f64 (Ieee.double.write ((Ieee.double.read x).integral .down))) ∧ w = w' := by
  obtain ⟨v, hv⟩ : ∃ v, Ieee.double.write ((Ieee.double.read x).integral .down) = v := ⟨_, rfl⟩
  rw [hv]
  have h1 : ∀ W : World, (callFunc 30 #[.float .f64 x]).run Try.prog W = .ok (.value (.float .f64 v)) W := fun W => by
    rw [@run_callFunc_extern Try.prog 30 _ (Extern.MathFloor.toIntegral "math.archFloor" .down) Try.func30 (by kernel_rfl) (by kernel_rfl) (by kernel_rfl) (by kernel_rfl)]
    have e : (Extern.MathFloor.toIntegral "math.archFloor" .down #[Value.float .f64 x]).run Try.prog W = .ok (Value.float .f64 v) W := by
      rw [← hv]
      have hr : rg x ≤ inf := by unfold isN at hx; simpa using hx
      rcases Nat.lt_or_eq_of_le hr with h | h
      · have hd : FloatKind.f64.decode x = .number (sg x) (mag (rg x)) (-1074 + (up (rg x) : Nat)) := read_num h
        rw [read_num h]; (conv => lhs; arg 2; whnf); rw [hd]; rfl
      · have hd : FloatKind.f64.decode x = .infinity (sg x) := read_inf h
        rw [read_inf h]; (conv => lhs; arg 2; whnf); rw [hd]; rfl
    rw [e]; rfl
  go_enter Try.func28, Try.ntmps28
  go_wp2
  go_ret
  exact ⟨rfl, rfl⟩

/-- What passes, as it counts. -/
def clampN (n : Int) : Nat := (min (max n 0) 1000).toNat
theorem clampN_le (n : Int) : clampN n ≤ 1000 := by unfold clampN; omega

theorem move_any (x : Nat) (hx : x < 18446744073709551616) (n : Int) (w : World) :
    Calls Try.prog 25 #[.float .f64 x, .int .i64 n] w fun e w' => e = .returned (.int .i64 (mv x (clampN n))) ∧ w = w' := by
  obtain ⟨m, hm⟩ : ∃ m, (if n < 0 then 0 else n) = m := ⟨_, rfl⟩
  obtain ⟨k, hk⟩ : ∃ k, (if m > 1000 then 1000 else m) = k := ⟨_, rfl⟩
  have hkc : k = clampN n := by unfold clampN; omega
  have hle := clampN_le n
  have c := clean_any x
  have h1 := mul_pr hx hle
  have hp := pr_lt hx hle
  have c2 := floor_any (pr x (clampN n)) (small_isN (by omega))
  rw [floor_pr hx hle] at c2
  have h2 := cut_ru (mv_le hx hle)
  rw [← hkc] at h1
  generalize pr x (clampN n) = p at *
  generalize mv x (clampN n) = v at *
  generalize ru v = q at *
  generalize cl x = cx at *
  clear hkc hle
  have e1 : ∀ W : World, (binOp .mul 47 (.float .f64 (floatOfInt .f64 k)) (.float .f64 cx)).run Try.prog W = .ok (.float .f64 p) W := fun W => run_float_arith W .mul 47 .f64 _ _ _ h1
  have e2 : ∀ W : World, (convert 47 3 (.float .f64 q)).run Try.prog W = .ok (.int .i64 v) W := fun W => run_convert_float_int W 47 3 .f64 .i64 q v (by kernel_rfl) (by kernel_rfl) h2
  clear h1 h2
  go_enter Try.func25, Try.ntmps25
  go_wp2_with (first | (go_at_call 29; refine (c _).mono ?_; rintro e w' ⟨rfl, rfl⟩) | (go_at_call 28; refine (c2 _).mono ?_; rintro e w' ⟨rfl, rfl⟩))
  go_ret
  exact ⟨rfl, rfl⟩
end Go.Proofs.Ytpmpamipcedioaa
