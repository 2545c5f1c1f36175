/- The contract of math.Max, of any two floats. -/
import Derived.Test.YtpjefioopbnolaaRows
import Derived.WalkKit
import Derived.WalkSpells
import Derived.WalkLawsBesides
import Derived.Handy
import Derived.Test.YtpjefioopbnolaaMem
import Derived.Test.YtpjefioopbnolaaFl
import Derived.Test.YtpjefioopbnolaaFlRun
import Derived.Test.YtpjefioopbnolaaGauV
namespace Go.Proofs.Ytpjefioopbnolaa
open Go.RowKit
set_option linter.unusedVariables false

open Fl
/-- What the greater of two floats is, as the model has it. -/
def maxD (x y : Nat) : Nat :=
  if FloatKind.f64.decode x == .infinity false || FloatKind.f64.decode y == .infinity false then FloatKind.f64.encode (.infinity false)
  else if (FloatKind.f64.decode x).isNaN || (FloatKind.f64.decode y).isNaN then 0x7FF8000000000001
  else if (FloatKind.f64.decode x).isZero && (FloatKind.f64.decode y).isZero then (if (FloatKind.f64.decode x).neg == false then x else y)
  else if (FloatKind.f64.decode x).order (FloatKind.f64.decode y) == some .gt then x else y
theorem archmax_gen (x y : Nat) (W : World) : (callFunc 38 #[.float .f64 x, .float .f64 y]).run Try.prog W = .ok (.value (.float .f64 (maxD x y))) W := by
  rw [@run_callFunc_extern Try.prog 38 _ (Extern.MathDim.pick "math.archMax" false .gt) Try.func38 (by kernel_rfl) (by kernel_rfl) (by kernel_rfl) (by kernel_rfl)]
  have e : (Extern.MathDim.pick "math.archMax" false .gt #[Value.float .f64 x, Value.float .f64 y]).run Try.prog W = .ok (Value.float .f64 (maxD x y)) W := by
    conv => lhs; arg 2; whnf
    rfl
  rw [e]; rfl
theorem max_gen (x y : Nat) (w : World) : Calls Try.prog 30 #[.float .f64 x, .float .f64 y] w fun e w' => e = .returned (.float .f64 (maxD x y)) ∧ w = w' := by
  have h1 := archmax_gen x y
  generalize maxD x y = r at *
  go_enter Try.func30, Try.ntmps30
  go_wp2
  go_ret
  exact ⟨rfl, rfl⟩
/-- The greater of a most and a float. -/
def mostS (m x : Nat) : Nat := if flt m x || (decide (rg x = 0) && decide (rg m = 0) && !sg x) then x else m
theorem key_word {x y : Nat} (hx : x < 18446744073709551616) (hy : y < 18446744073709551616) (h : Fl.key x = Fl.key y) (h0 : Fl.key x ≠ 0) : x = y := by
  rw [← word_self x hx, ← word_self y hy]
  unfold Fl.key at h h0
  cases hs : sg x <;> cases ht : sg y <;> rw [hs] at h h0 <;> rw [ht] at h <;> simp at h h0 <;> (try omega)
  · rw [show rg x = rg y by omega]
  · rw [show rg x = rg y by omega]
theorem maxD_eq {m x : Nat} (hm : m < 18446744073709551616) (hx : x < 18446744073709551616) (nm : isN m = false) (nx : isN x = false) : maxD m x = mostS m x := by
  have rm : rg m ≤ inf := by unfold isN at nm; simpa using nm
  have rx : rg x ≤ inf := by unfold isN at nx; simpa using nx
  have wm := word_self m hm
  have wx := word_self x hx
  have ei : FloatKind.f64.encode (.infinity false) = inf := rfl
  have dm : FloatKind.f64.decode m = Ieee.double.read m := rfl
  have dx : FloatKind.f64.decode x = Ieee.double.read x := rfl
  have hfl : flt m x = decide (Fl.key m < Fl.key x) := by unfold flt; rw [nm, nx]; rfl
  have ho : (Ieee.double.read m).order (Ieee.double.read x) = some (compare (Fl.key m) (Fl.key x)) := order_num rm rx
  have hip : 0 < inf := by decide
  unfold maxD mostS
  rw [dm, dx, ei, hfl, ho]
  have n1 : ∀ (s : Bool) (k : Nat) (e : Int), ((Ieee.Datum.number s k e == .infinity false) = false) := by intro s k e; rfl
  have i1 : ((Ieee.Datum.infinity false == .infinity false) = true) := rfl
  have i2 : ((Ieee.Datum.infinity true == .infinity false) = false) := rfl
  have z1 : ∀ (s : Bool) (r : Nat) (e : Int), (Ieee.Datum.number s (mag r) e).isZero = decide (r = 0) := by
    intro s r e
    by_cases h : r = 0
    · subst h; rw [mag_zero]; rfl
    · have hm := mag_ne h
      rw [decide_eq_false h]
      generalize mag r = k at *
      unfold Ieee.Datum.isZero
      cases k with
      | zero => exact absurd rfl hm
      | succ k => rfl
  have key_m : Fl.key m = if sg m then -(rg m : Int) else rg m := rfl
  have key_x : Fl.key x = if sg x then -(rg x : Int) else rg x := rfl
  have kc : ∀ a b : Int, ((some (compare a b) == some Ordering.gt) = decide (b < a)) := by
    intro a b
    by_cases h : b < a
    · rw [Int.compare_eq_gt.2 h, decide_eq_true h]; rfl
    · rw [decide_eq_false h]
      have : compare a b ≠ .gt := fun e => h (Int.compare_eq_gt.1 e)
      simpa using this
  rw [kc]
  rcases Nat.lt_or_eq_of_le rm with h1 | h1
  · rcases Nat.lt_or_eq_of_le rx with h2 | h2
    · rw [read_num h1, read_num h2, n1, n1, z1, z1]
      simp only [Bool.or_false, Bool.false_eq_true, if_false, Ieee.Datum.isNaN, Ieee.Datum.neg]
      by_cases za : rg m = 0
      · by_cases zb : rg x = 0
        · rw [za] at wm key_m
          rw [zb] at wx key_x
          cases hs : sg m <;> cases ht : sg x <;> rw [hs] at wm key_m <;> rw [ht] at wx key_x <;> simp at key_m key_x <;> simp [za, zb, key_m, key_x]
          · rw [← wm, ← wx]
          · rw [← wm, ← wx]
        · have hk : Fl.key x ≠ 0 := by rw [key_x]; split <;> omega
          simp only [za, zb, decide_true, decide_false, Bool.and_false, Bool.false_and, Bool.or_false, Bool.false_eq_true, if_false]
          by_cases hl : Fl.key m < Fl.key x
          · rw [decide_eq_true hl, decide_eq_false (by omega)]; rfl
          · have hm0 : Fl.key m = 0 := by rw [key_m]; split <;> omega
            have hl2 : Fl.key x < Fl.key m := by omega
            rw [decide_eq_false hl, decide_eq_true hl2]; rfl
      · have hk : Fl.key m ≠ 0 := by rw [key_m]; split <;> omega
        simp only [za, decide_false, Bool.false_and, Bool.and_false, Bool.or_false, Bool.false_eq_true, if_false]
        by_cases hl : Fl.key m < Fl.key x
        · rw [decide_eq_true hl, decide_eq_false (by omega)]; rfl
        · rw [decide_eq_false hl]
          by_cases he : Fl.key x < Fl.key m
          · rw [decide_eq_true he]; rfl
          · rw [decide_eq_false he]
            have := key_word hm hx (by omega) hk
            simp [this]
    · rw [read_num h1, read_inf h2, n1]
      cases ht : sg x
      · rw [i1]
        rw [ht, h2] at wx key_x
        simp at key_x
        have : Fl.key m < Fl.key x := by rw [key_m, key_x]; split <;> omega
        rw [decide_eq_true this]
        simp
        rw [← wx]; rfl
      · rw [i2]
        rw [ht, h2] at wx key_x
        simp at key_x
        have hl : Fl.key x < Fl.key m := by rw [key_m, key_x]; split <;> omega
        have hz : ¬ rg x = 0 := by omega
        rw [decide_eq_true hl, decide_eq_false (show ¬ Fl.key m < Fl.key x by omega), decide_eq_false hz]
        simp [Ieee.Datum.isNaN, Ieee.Datum.isZero]
  · rw [read_inf h1]
    have hz : ¬ rg m = 0 := by omega
    cases hs : sg m
    · rw [i1]
      rw [hs, h1] at wm key_m
      simp at key_m
      have hl : ¬ Fl.key m < Fl.key x := by rw [key_m, key_x]; split <;> omega
      rw [decide_eq_false hl, decide_eq_false hz]
      simp
      rw [← wm]; rfl
    · rw [i2]
      rw [hs, h1] at wm key_m
      simp at key_m
      rw [decide_eq_false hz]
      rcases Nat.lt_or_eq_of_le rx with h2 | h2
      · rw [read_num h2, n1]
        have hl : Fl.key m < Fl.key x := by rw [key_m, key_x]; split <;> omega
        rw [decide_eq_true hl, decide_eq_false (show ¬ Fl.key x < Fl.key m by omega)]
        simp [Ieee.Datum.isNaN, Ieee.Datum.isZero]
      · rw [read_inf h2]
        cases ht : sg x
        · rw [i1]
          rw [ht, h2] at wx key_x
          simp at key_x
          have hl : Fl.key m < Fl.key x := by rw [key_m, key_x]; omega
          rw [decide_eq_true hl]
          simp
          rw [← wx]; rfl
        · rw [i2]
          rw [ht, h2] at wx key_x
          have e : m = x := by rw [← wm, ← wx]
          subst e
          simp [Ieee.Datum.isNaN, Ieee.Datum.isZero]
end Go.Proofs.Ytpjefioopbnolaa
