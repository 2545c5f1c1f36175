/- rate.Of where the quotient is a number; quotients by nought; the farthest of some is one of them. -/
import Derived.Test.YtmlcjmgclfgbiaaRows
import Derived.WalkKit
import Derived.WalkSpells
import Derived.WalkLawsBesides
import Derived.Handy
import Derived.Test.YtmlcjmgclfgbiaaMem
import Derived.Test.YtmlcjmgclfgbiaaFl
import Derived.Test.YtmlcjmgclfgbiaaFlRun
import Derived.Test.YtmlcjmgclfgbiaaOf
import Derived.Test.YtmlcjmgclfgbiaaBits
import Derived.Test.YtmlcjmgclfgbiaaInf
import Derived.Test.YtmlcjmgclfgbiaaNear
namespace Go.Proofs.Ytmlcjmgclfgbiaa
open Go.RowKit
set_option linter.unusedVariables false

open Fl
theorem of_some (n m : Int) (q : Nat) (h : floatBits .quo .f64 (floatOfInt .f64 m) (floatOfInt .f64 n) = some q) (w : World) :
    Calls Try.prog 22 #[.int .i64 n, .int .i64 m] w fun e w' => e = .returned (.float .f64 q) ∧ w = w' := by
  generalize hx : floatOfInt .f64 m = x at *
  generalize hy : floatOfInt .f64 n = y at *
  have e1 : ∀ W : World, (binOp .quo 23 (.float .f64 x) (.float .f64 y)).run Try.prog W = .ok (.float .f64 q) W := fun W => run_float_arith W .quo 23 .f64 _ _ _ h
  clear h
  go_enter Try.func22, Try.ntmps22
  go_wp2
  go_ret
  exact ⟨rfl, rfl⟩
theorem div_by0 {x y : Nat} (hx : rg x < inf) (h0 : rg x ≠ 0) (hy : rg y = 0) : Ieee.double.div x y = some (word (sg x ^^ sg y) inf) := by
  unfold Ieee.Format.div
  have h1 : rg y < inf := by rw [hy]; decide
  rw [read_num hx, read_num h1, hy]
  have e2 := mag_ne h0
  simp only [Ieee.Datum.quotient, mag_zero, if_true]
  rw [if_neg e2]
  rfl
theorem of_up {m : Nat} (hm : m < 2000) : floatBits .quo .f64 (floatOfInt .f64 ((m : Int) + 1)) (floatOfInt .f64 0) = some 9218868437227405312 := by
  have hB : 2 * B = 9007199254740992 := by decide
  have g : rg (floatOfInt .f64 ((m : Int) + 1)) = ru (m + 1) := by rw [rg_ofInt]; congr 1
  have s : sg (floatOfInt .f64 ((m : Int) + 1)) = false := by rw [sg_ofInt]; simp; omega
  have v := ru_val (n := m + 1) (by omega)
  have l := ru_lt (n := m + 1) (by omega)
  have e := div_by0 (x := floatOfInt .f64 ((m : Int) + 1)) (y := floatOfInt .f64 0) (by rw [g]; exact l) (by
    rw [g]; intro e; rw [e, val_zero] at v
    have := Nat.mul_pos (show 0 < m + 1 by omega) U_pos
    omega) (by rw [rg_ofInt]; unfold ru; simp [RU_zero])
  rw [s, sg_ofInt] at e
  exact e
theorem of_down {m : Nat} (hm : m < 2000) : floatBits .quo .f64 (floatOfInt .f64 (-1 - (m : Int))) (floatOfInt .f64 0) = some 18442240474082181120 := by
  have hB : 2 * B = 9007199254740992 := by decide
  have g : rg (floatOfInt .f64 (-1 - (m : Int))) = ru (m + 1) := by rw [rg_ofInt]; congr 1; omega
  have s : sg (floatOfInt .f64 (-1 - (m : Int))) = true := by rw [sg_ofInt]; simp; omega
  have v := ru_val (n := m + 1) (by omega)
  have l := ru_lt (n := m + 1) (by omega)
  have e := div_by0 (x := floatOfInt .f64 (-1 - (m : Int))) (y := floatOfInt .f64 0) (by rw [g]; exact l) (by
    rw [g]; intro e; rw [e, val_zero] at v
    have := Nat.mul_pos (show 0 < m + 1 by omega) U_pos
    omega) (by rw [rg_ofInt]; unfold ru; simp [RU_zero])
  rw [s, sg_ofInt] at e
  exact e
theorem of_00 : floatBits .quo .f64 (floatOfInt .f64 0) (floatOfInt .f64 0) = none := by decide +kernel
/-- How far one float is from 1. -/
def xF (x : Nat) : Nat := farF (fun _ => x) 1
theorem xF_nan {x : Nat} (h : isN x = true) : xF x = 9221120237041090561 := by unfold xF farF anyN; simp [anyN, h]
theorem xF_num {x : Nat} (h : isN x = false) : xF x = dis x := by unfold xF farF; simp [anyN, h, farR]
theorem nanB : isN 9221120237041090561 = true := by decide
theorem farF_nan {b : Nat → Nat} {n k : Nat} (hk : k < n) (h : isN (b k) = true) : farF b n = 9221120237041090561 := by unfold farF; rw [anyN_true hk h]; rfl
theorem farR_mono {b : Nat → Nat} {n k : Nat} (hk : k < n) : dis (b k) ≤ farR b n := by
  induction n with
  | zero => omega
  | succ n ih =>
    unfold farR
    by_cases h : k = n
    · subst h; omega
    · have := ih (by omega); omega
theorem far_not_less {b : Nat → Nat} {n k : Nat} (hk : k < n) : flt (farF b n) (xF (b k)) = false := by
  rcases ha : anyN b n with _ | _
  · have h := anyN_false.1 ha
    have e : farF b n = farR b n := by unfold farF; rw [ha]; rfl
    rw [e, xF_num (h k hk), flt_small (farR_le b n h) (sub_one (h k hk)).2.1]
    have := farR_mono (b := b) hk
    exact decide_eq_false (by omega)
  · have e : farF b n = 9221120237041090561 := by unfold farF; rw [ha]; rfl
    rw [e]; unfold flt; rw [nanB]; rfl
/-- Is one of the first j as far as the farthest of all? -/
def oneB (b : Nat → Nat) (n : Nat) : Nat → Bool
  | 0 => decide (n = 0)
  | j + 1 => oneB b n j || al (xF (b j)) (farF b n)
theorem oneB_up {b : Nat → Nat} {n j k : Nat} (hjk : j ≤ k) (h : oneB b n j = true) : oneB b n k = true := by
  induction k with
  | zero => have : j = 0 := by omega
            subst this; exact h
  | succ k ih =>
    by_cases e : j = k + 1
    · subst e; exact h
    · unfold oneB; rw [ih (by omega)]; rfl
theorem oneB_at {b : Nat → Nat} {n j : Nat} (hj : j < n) (h : al (xF (b j)) (farF b n) = true) : oneB b n n = true := by
  refine oneB_up (j := j + 1) (by omega) ?_
  unfold oneB; rw [h, Bool.or_true]
theorem farR_at (b : Nat → Nat) (n : Nat) (hn : 0 < n) : ∃ j, j < n ∧ farR b n = dis (b j) := by
  induction n with
  | zero => omega
  | succ n ih =>
    unfold farR
    by_cases h : n = 0
    · subst h; exact ⟨0, by omega, by unfold farR; omega⟩
    · obtain ⟨j, hj, e⟩ := ih (by omega)
      by_cases h2 : dis (b n) ≤ farR b n
      · exact ⟨j, by omega, by omega⟩
      · exact ⟨n, by omega, by omega⟩
theorem one_end (b : Nat → Nat) (n : Nat) : oneB b n n = true := by
  by_cases h0 : n = 0
  · subst h0; rfl
  · rcases ha : anyN b n with _ | _
    · have h := anyN_false.1 ha
      obtain ⟨j, hj, e⟩ := farR_at b n (by omega)
      refine oneB_at hj ?_
      have e2 : farF b n = farR b n := by unfold farF; rw [ha]; rfl
      rw [e2, e, xF_num (h j hj)]; exact al_self _
    · have : ∃ j, j < n ∧ isN (b j) = true := by
        by_cases hx : ∃ j, j < n ∧ isN (b j) = true
        · exact hx
        · have : anyN b n = false := anyN_false.2 fun i hi => by
            rcases hb : isN (b i) with _ | _
            · rfl
            · exact absurd ⟨i, hi, hb⟩ hx
          rw [this] at ha; cases ha
      obtain ⟨j, hj, hb⟩ := this
      refine oneB_at hj ?_
      rw [farF_nan hj hb, xF_nan hb]; exact al_self _
theorem row_one (w : World) (x : Nat) (hx : x < 18446744073709551616) : IsFs (w.alloc (.cells #[.float .f64 x] 23)) (some ⟨w.heap.size, 0, none⟩) 1 (fun _ => x) := by
  refine ⟨by omega, fun i hi => hx, fun _ => ⟨w.heap.size, 0, rfl, (Blk.new w _ _).lt, fun i hi => ?_⟩⟩
  rw [Nat.zero_add, (Blk.new w _ _).cell]
  have : i = 0 := by omega
  subst this; rfl
end Go.Proofs.Ytmlcjmgclfgbiaa
