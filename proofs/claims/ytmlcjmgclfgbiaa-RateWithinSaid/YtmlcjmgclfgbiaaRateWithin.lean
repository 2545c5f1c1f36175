/- RateWithin returns true at every input, and its arguments read as they did: no condition. -/
import Derived.Test.YtmlcjmgclfgbiaaRows
import Derived.WalkKit
import Derived.ProofKit
import Derived.OpenShut
import Derived.ShutString
import Derived.ChangeOld
import Derived.Below
import Derived.WalkSpells
import Derived.WalkLawsBesides
import Derived.Handy
import Derived.Deep.QuietTactic
import Derived.BigQuiet
import Derived.Test.YtmlcjmgclfgbiaaMem
import Derived.Test.YtmlcjmgclfgbiaaFl
import Derived.Test.YtmlcjmgclfgbiaaFlRun
import Derived.Test.YtmlcjmgclfgbiaaMove
import Derived.Test.YtmlcjmgclfgbiaaOf
import Derived.Test.YtmlcjmgclfgbiaaBits
import Derived.Test.YtmlcjmgclfgbiaaFar
import Derived.Test.YtmlcjmgclfgbiaaRateW
import Derived.Test.YtmlcjmgclfgbiaaAw2
namespace Go.Proofs.Ytmlcjmgclfgbiaa.rateWithin
open Go.ChangeShapes Go.WideShapes Go.ChangeAt Go.RowKit
open Go.ChangeMaps (open_string shut_string)
set_option linter.unusedVariables false

theorem wn_up (k x a : Int) (h1 : 0 ≤ k) (h2 : k ≤ 2147483647) (h3 : 0 ≤ x) (h4 : k + x ≤ 2147483648) (h5 : 0 ≤ a) (h6 : a ≤ 1000) : withinB k (k + x) a = decide (1000 * x ≤ a * k) := by
  obtain ⟨b1, b2⟩ := rn_bd a k h5 h6 h1 (by omega)
  unfold withinB; rw [decide_eq_decide]; omega
theorem wn_dn (k x a : Int) (h1 : 0 ≤ k) (h2 : k ≤ 2147483647) (h3 : 0 ≤ x) (h4 : x ≤ k) (h5 : 0 ≤ a) (h6 : a ≤ 1000) : withinB k (k - x) a = decide (1000 * x ≤ a * k) := by
  obtain ⟨b1, b2⟩ := rn_bd a k h5 h6 h1 (by omega)
  unfold withinB; rw [decide_eq_decide]; omega
theorem wn_out (n m r : Int) (h : n < 0 ∨ 2147483648 < n ∨ m < 0 ∨ 2147483648 < m ∨ r < 0 ∨ 1000 < r) : withinB n m r = false := by
  unfold withinB; rw [decide_eq_false_iff_not]; omega
theorem wn_same (k a : Int) (h1 : 0 ≤ k) (h2 : k ≤ 2147483647) (h5 : 0 ≤ a) (h6 : a ≤ 1000) : withinB k k a = true := by
  obtain ⟨b1, b2⟩ := rn_bd a k h5 h6 h1 (by omega)
  exact withinB_true (by omega)

set_option maxRecDepth 100000 in
set_option maxHeartbeats 4000000 in
theorem walkTb (a0 a1 a2 a3 k x a b : Int) (w : World) (hk : a0 / 2 = k) (hx : a1 / 4 % (k + 1) = x) (ha : a2 % 1001 = a) (hb : a3 % 1001 = b) (h0 : 0 ≤ a0) (h0' : a0 ≤ 4294967295) (h1 : 0 ≤ a1) (h1' : a1 ≤ 4294967295) (h2 : 0 ≤ a2) (h2' : a2 ≤ 65535) (h3 : 0 ≤ a3) (h3' : a3 ≤ 65535)
   (h4 : k + x ≤ 2147483648) (e1 : withinB k (k + x) a = true) (e2 : withinB k (k - x) a = true) (hab : a < b) (e3 : withinB k (k + x) b = true) (e4 : withinB k (k + x) 0 = (x == 0)) (e5 : withinB k k a = true) (e6 : withinB (-1 - k) k a = false) (e7 : withinB k (-1 - k) a = false) (e8 : withinB k k (1001 + a) = false) (e9 : withinB k k (-1 - a) = false) :
    Calls Try.prog 7 #[.int .u32 a0, .int .u32 a1, .int .u16 a2, .int .u16 a3] w fun e w' => e = .returned (.bool true) ∧ Below w.heap.size w w' := by
  have hz : (a0 / 2 + 1 == 0) = false := by rw [beq_eq_false_iff_ne]; omega
  have hm1 := Int.emod_nonneg (a1 / 4) (b := a0 / 2 + 1) (by omega)
  have hm2 := Int.emod_lt_of_pos (a1 / 4) (b := a0 / 2 + 1) (by omega)
  have k1 : 0 ≤ k := by omega
  have k2 : k ≤ 2147483647 := by omega
  have x1 : 0 ≤ x := by rw [← hx, ← hk]; exact hm1
  have x2 : x ≤ k := by rw [← hx, ← hk]; rw [hk] at hm2 ⊢; omega
  have b1 : 0 ≤ a ∧ a ≤ 1000 := by omega
  have b2 : 0 ≤ b ∧ b ≤ 1000 := by omega
  have Hk := Lib.hid hk
  have Hx := Lib.hid hx
  have Ha := Lib.hid ha
  have Hb := Lib.hid hb
  have E1 := Lib.hid e1
  have E2 := Lib.hid e2
  have E3 := Lib.hid e3
  have E4 := Lib.hid e4
  have E5 := Lib.hid e5
  have E6 := Lib.hid e6
  have E7 := Lib.hid e7
  have E8 := Lib.hid e8
  have E9 := Lib.hid e9
  clear hk hx ha hb e1 e2 e3 e4 e5 e6 e7 e8 e9
  go_enter Try.func7, Try.ntmps7
  simp only [List.append]
  go_wp2_with fail
  go_quiet (fail)
  rw [Hk.out, Hx.out]
  clear hm1 hm2 hz
  go_wp2_with fail
  rw [Ha.out, Hb.out]
  refine (within_any _ _ _ _).mono ?_
  rw [E1.out]
  rintro e w1 ⟨rfl, rfl⟩
  go_wp2_with fail
  refine (within_any _ _ _ _).mono ?_
  rw [E2.out]
  rintro e w1 ⟨rfl, rfl⟩
  go_wp2_with fail
  refine (within_any _ _ _ _).mono ?_
  rw [E3.out]
  rintro e w1 ⟨rfl, rfl⟩
  go_wp2_with fail
  refine (within_any _ _ _ _).mono ?_
  rw [E4.out]
  rintro e w1 ⟨rfl, rfl⟩
  go_wp2_with fail
  refine (within_any _ _ _ _).mono ?_
  rw [E5.out]
  rintro e w1 ⟨rfl, rfl⟩
  go_wp2_with fail
  refine (within_any _ _ _ _).mono ?_
  rw [E6.out]
  rintro e w1 ⟨rfl, rfl⟩
  go_wp2_with fail
  refine (within_any _ _ _ _).mono ?_
  rw [E7.out]
  rintro e w1 ⟨rfl, rfl⟩
  go_wp2_with fail
  refine (within_any _ _ _ _).mono ?_
  rw [E8.out]
  rintro e w1 ⟨rfl, rfl⟩
  go_wp2_with fail
  refine (within_any _ _ _ _).mono ?_
  rw [E9.out]
  rintro e w1 ⟨rfl, rfl⟩
  go_wp2_with fail
  refine (awake2_any _).mono ?_
  rintro e w1 ⟨rfl, hg⟩
  go_wp2_with fail
  go_ret
  exact ⟨rfl, below_only (below_drewN (Below.refl _ _) _) (Nat.le_refl _) hg (by simp)⟩

set_option maxRecDepth 100000 in
set_option maxHeartbeats 4000000 in
theorem walkTa (a0 a1 a2 a3 k x a b : Int) (w : World) (hk : a0 / 2 = k) (hx : a1 / 4 % (k + 1) = x) (ha : a2 % 1001 = a) (hb : a3 % 1001 = b) (h0 : 0 ≤ a0) (h0' : a0 ≤ 4294967295) (h1 : 0 ≤ a1) (h1' : a1 ≤ 4294967295) (h2 : 0 ≤ a2) (h2' : a2 ≤ 65535) (h3 : 0 ≤ a3) (h3' : a3 ≤ 65535)
   (h4 : k + x ≤ 2147483648) (e1 : withinB k (k + x) a = true) (e2 : withinB k (k - x) a = true) (hab : b ≤ a) (e3 : withinB k (k + x) a = true) (e4 : withinB k (k + x) 0 = (x == 0)) (e5 : withinB k k a = true) (e6 : withinB (-1 - k) k a = false) (e7 : withinB k (-1 - k) a = false) (e8 : withinB k k (1001 + a) = false) (e9 : withinB k k (-1 - a) = false) :
    Calls Try.prog 7 #[.int .u32 a0, .int .u32 a1, .int .u16 a2, .int .u16 a3] w fun e w' => e = .returned (.bool true) ∧ Below w.heap.size w w' := by
  have hz : (a0 / 2 + 1 == 0) = false := by rw [beq_eq_false_iff_ne]; omega
  have hm1 := Int.emod_nonneg (a1 / 4) (b := a0 / 2 + 1) (by omega)
  have hm2 := Int.emod_lt_of_pos (a1 / 4) (b := a0 / 2 + 1) (by omega)
  have k1 : 0 ≤ k := by omega
  have k2 : k ≤ 2147483647 := by omega
  have x1 : 0 ≤ x := by rw [← hx, ← hk]; exact hm1
  have x2 : x ≤ k := by rw [← hx, ← hk]; rw [hk] at hm2 ⊢; omega
  have b1 : 0 ≤ a ∧ a ≤ 1000 := by omega
  have b2 : 0 ≤ b ∧ b ≤ 1000 := by omega
  have Hk := Lib.hid hk
  have Hx := Lib.hid hx
  have Ha := Lib.hid ha
  have Hb := Lib.hid hb
  have E1 := Lib.hid e1
  have E2 := Lib.hid e2
  have E3 := Lib.hid e3
  have E4 := Lib.hid e4
  have E5 := Lib.hid e5
  have E6 := Lib.hid e6
  have E7 := Lib.hid e7
  have E8 := Lib.hid e8
  have E9 := Lib.hid e9
  clear hk hx ha hb e1 e2 e3 e4 e5 e6 e7 e8 e9
  go_enter Try.func7, Try.ntmps7
  simp only [List.append]
  go_wp2_with fail
  go_quiet (fail)
  rw [Hk.out, Hx.out]
  clear hm1 hm2 hz
  go_wp2_with fail
  rw [Ha.out, Hb.out]
  refine (within_any _ _ _ _).mono ?_
  rw [E1.out]
  rintro e w1 ⟨rfl, rfl⟩
  go_wp2_with fail
  refine (within_any _ _ _ _).mono ?_
  rw [E2.out]
  rintro e w1 ⟨rfl, rfl⟩
  go_wp2_with fail
  refine (within_any _ _ _ _).mono ?_
  rw [E3.out]
  rintro e w1 ⟨rfl, rfl⟩
  go_wp2_with fail
  refine (within_any _ _ _ _).mono ?_
  rw [E4.out]
  rintro e w1 ⟨rfl, rfl⟩
  go_wp2_with fail
  refine (within_any _ _ _ _).mono ?_
  rw [E5.out]
  rintro e w1 ⟨rfl, rfl⟩
  go_wp2_with fail
  refine (within_any _ _ _ _).mono ?_
  rw [E6.out]
  rintro e w1 ⟨rfl, rfl⟩
  go_wp2_with fail
  refine (within_any _ _ _ _).mono ?_
  rw [E7.out]
  rintro e w1 ⟨rfl, rfl⟩
  go_wp2_with fail
  refine (within_any _ _ _ _).mono ?_
  rw [E8.out]
  rintro e w1 ⟨rfl, rfl⟩
  go_wp2_with fail
  refine (within_any _ _ _ _).mono ?_
  rw [E9.out]
  rintro e w1 ⟨rfl, rfl⟩
  go_wp2_with fail
  refine (awake2_any _).mono ?_
  rintro e w1 ⟨rfl, hg⟩
  go_wp2_with fail
  go_ret
  exact ⟨rfl, below_only (below_drewN (Below.refl _ _) _) (Nat.le_refl _) hg (by simp)⟩

set_option maxRecDepth 100000 in
set_option maxHeartbeats 4000000 in
theorem walkF (a0 a1 a2 a3 k x a b : Int) (w : World) (hk : a0 / 2 = k) (hx : a1 / 4 % (k + 1) = x) (ha : a2 % 1001 = a) (hb : a3 % 1001 = b) (h0 : 0 ≤ a0) (h0' : a0 ≤ 4294967295) (h1 : 0 ≤ a1) (h1' : a1 ≤ 4294967295) (h2 : 0 ≤ a2) (h2' : a2 ≤ 65535) (h3 : 0 ≤ a3) (h3' : a3 ≤ 65535)
   (h4 : k + x ≤ 2147483648) (e1 : withinB k (k + x) a = false) (e2 : withinB k (k - x) a = false) (e4 : withinB k (k + x) 0 = (x == 0)) (e5 : withinB k k a = true) (e6 : withinB (-1 - k) k a = false) (e7 : withinB k (-1 - k) a = false) (e8 : withinB k k (1001 + a) = false) (e9 : withinB k k (-1 - a) = false) :
    Calls Try.prog 7 #[.int .u32 a0, .int .u32 a1, .int .u16 a2, .int .u16 a3] w fun e w' => e = .returned (.bool true) ∧ Below w.heap.size w w' := by
  have hz : (a0 / 2 + 1 == 0) = false := by rw [beq_eq_false_iff_ne]; omega
  have hm1 := Int.emod_nonneg (a1 / 4) (b := a0 / 2 + 1) (by omega)
  have hm2 := Int.emod_lt_of_pos (a1 / 4) (b := a0 / 2 + 1) (by omega)
  have k1 : 0 ≤ k := by omega
  have k2 : k ≤ 2147483647 := by omega
  have x1 : 0 ≤ x := by rw [← hx, ← hk]; exact hm1
  have x2 : x ≤ k := by rw [← hx, ← hk]; rw [hk] at hm2 ⊢; omega
  have b1 : 0 ≤ a ∧ a ≤ 1000 := by omega
  have b2 : 0 ≤ b ∧ b ≤ 1000 := by omega
  have Hk := Lib.hid hk
  have Hx := Lib.hid hx
  have Ha := Lib.hid ha
  have Hb := Lib.hid hb
  have E1 := Lib.hid e1
  have E2 := Lib.hid e2
  have E4 := Lib.hid e4
  have E5 := Lib.hid e5
  have E6 := Lib.hid e6
  have E7 := Lib.hid e7
  have E8 := Lib.hid e8
  have E9 := Lib.hid e9
  clear hk hx ha hb e1 e2 e4 e5 e6 e7 e8 e9
  go_enter Try.func7, Try.ntmps7
  simp only [List.append]
  go_wp2_with fail
  go_quiet (fail)
  rw [Hk.out, Hx.out]
  clear hm1 hm2 hz
  go_wp2_with fail
  rw [Ha.out, Hb.out]
  refine (within_any _ _ _ _).mono ?_
  rw [E1.out]
  rintro e w1 ⟨rfl, rfl⟩
  go_wp2_with fail
  refine (within_any _ _ _ _).mono ?_
  rw [E2.out]
  rintro e w1 ⟨rfl, rfl⟩
  go_wp2_with fail
  refine (within_any _ _ _ _).mono ?_
  rw [E4.out]
  rintro e w1 ⟨rfl, rfl⟩
  go_wp2_with fail
  refine (within_any _ _ _ _).mono ?_
  rw [E5.out]
  rintro e w1 ⟨rfl, rfl⟩
  go_wp2_with fail
  refine (within_any _ _ _ _).mono ?_
  rw [E6.out]
  rintro e w1 ⟨rfl, rfl⟩
  go_wp2_with fail
  refine (within_any _ _ _ _).mono ?_
  rw [E7.out]
  rintro e w1 ⟨rfl, rfl⟩
  go_wp2_with fail
  refine (within_any _ _ _ _).mono ?_
  rw [E8.out]
  rintro e w1 ⟨rfl, rfl⟩
  go_wp2_with fail
  refine (within_any _ _ _ _).mono ?_
  rw [E9.out]
  rintro e w1 ⟨rfl, rfl⟩
  go_wp2_with fail
  refine (awake2_any _).mono ?_
  rintro e w1 ⟨rfl, hg⟩
  go_wp2_with fail
  go_ret
  exact ⟨rfl, below_only (below_drewN (Below.refl _ _) _) (Nat.le_refl _) hg (by simp)⟩

set_option maxRecDepth 100000 in
set_option maxHeartbeats 4000000 in
theorem walkBig (a0 a1 a2 a3 k x a b : Int) (w : World) (hk : a0 / 2 = k) (hx : a1 / 4 % (k + 1) = x) (ha : a2 % 1001 = a) (hb : a3 % 1001 = b) (h0 : 0 ≤ a0) (h0' : a0 ≤ 4294967295) (h1 : 0 ≤ a1) (h1' : a1 ≤ 4294967295) (h2 : 0 ≤ a2) (h2' : a2 ≤ 65535) (h3 : 0 ≤ a3) (h3' : a3 ≤ 65535)
   (h4 : 2147483648 < k + x) (e1 : withinB k (k + x) a = false) :
    Calls Try.prog 7 #[.int .u32 a0, .int .u32 a1, .int .u16 a2, .int .u16 a3] w fun e w' => e = .returned (.bool true) ∧ Below w.heap.size w w' := by
  have hz : (a0 / 2 + 1 == 0) = false := by rw [beq_eq_false_iff_ne]; omega
  have hm1 := Int.emod_nonneg (a1 / 4) (b := a0 / 2 + 1) (by omega)
  have hm2 := Int.emod_lt_of_pos (a1 / 4) (b := a0 / 2 + 1) (by omega)
  have k1 : 0 ≤ k := by omega
  have k2 : k ≤ 2147483647 := by omega
  have x1 : 0 ≤ x := by rw [← hx, ← hk]; exact hm1
  have x2 : x ≤ k := by rw [← hx, ← hk]; rw [hk] at hm2 ⊢; omega
  have b1 : 0 ≤ a ∧ a ≤ 1000 := by omega
  have b2 : 0 ≤ b ∧ b ≤ 1000 := by omega
  have Hk := Lib.hid hk
  have Hx := Lib.hid hx
  have Ha := Lib.hid ha
  have Hb := Lib.hid hb
  have E1 := Lib.hid e1
  clear hk hx ha hb e1
  go_enter Try.func7, Try.ntmps7
  simp only [List.append]
  go_wp2_with fail
  go_quiet (fail)
  rw [Hk.out, Hx.out]
  clear hm1 hm2 hz
  go_wp2_with fail
  rw [Ha.out, Hb.out]
  refine (within_any _ _ _ _).mono ?_
  rw [E1.out]
  rintro e w1 ⟨rfl, rfl⟩
  go_wp2_with fail
  refine (awake2_any _).mono ?_
  rintro e w1 ⟨rfl, hg⟩
  go_wp2_with fail
  go_ret
  exact ⟨rfl, below_only (below_drewN (Below.refl _ _) _) (Nat.le_refl _) hg (by simp)⟩

theorem walk (a0 a1 a2 a3 : Int) (w : World) (w0 : (Lit.int .u32 a0).wf = true) (w1 : (Lit.int .u32 a1).wf = true) (w2 : (Lit.int .u16 a2).wf = true) (w3 : (Lit.int .u16 a3).wf = true) :
    Calls Try.prog 7 #[.int .u32 a0, .int .u32 a1, .int .u16 a2, .int .u16 a3] w fun e w' => e = .returned (.bool true) ∧ Below w.heap.size w w' := by
  have h0 := bounds_u32 w0
  have h1 := bounds_u32 w1
  have h2 := bounds_u16 w2
  have h3 := bounds_u16 w3
  obtain ⟨k, hk⟩ : ∃ k, a0 / 2 = k := ⟨_, rfl⟩
  have hm1 := Int.emod_nonneg (a1 / 4) (b := k + 1) (by omega)
  have hm2 := Int.emod_lt_of_pos (a1 / 4) (b := k + 1) (by omega)
  obtain ⟨x, hx⟩ : ∃ x, a1 / 4 % (k + 1) = x := ⟨_, rfl⟩
  rw [hx] at hm1 hm2
  have k1 : 0 ≤ k := by omega
  have k2 : k ≤ 2147483647 := by omega
  have k3 : x ≤ k := by omega
  obtain ⟨a, ha⟩ : ∃ x, a2 % 1001 = x := ⟨_, rfl⟩
  obtain ⟨b, hb⟩ : ∃ x, a3 % 1001 = x := ⟨_, rfl⟩
  have b1 : 0 ≤ a ∧ a ≤ 1000 := by omega
  have b2 : 0 ≤ b ∧ b ≤ 1000 := by omega
  by_cases hbig : 2147483648 < k + x
  · exact walkBig a0 a1 a2 a3 k x a b w hk hx ha hb h0.1 h0.2 h1.1 h1.2 h2.1 h2.2 h3.1 h3.2 hbig (wn_out k (k + x) a (by omega))
  · have e1 := wn_up k x a (by omega) (by omega) (by omega) (by omega) (by omega) (by omega)
    have e2 := wn_dn k x a (by omega) (by omega) (by omega) (by omega) (by omega) (by omega)
    have e3 := wn_up k x b (by omega) (by omega) (by omega) (by omega) (by omega) (by omega)
    have e4 := wn_up k x 0 (by omega) (by omega) (by omega) (by omega) (by omega) (by omega)
    have e4' : decide (1000 * x ≤ 0 * k) = (x == 0) := by
      rw [Int.zero_mul]
      by_cases h : x = 0
      · subst h; rfl
      · have h1 : ¬ 1000 * x ≤ 0 := by omega
        rw [decide_eq_false h1]; symm; simpa using h
    rw [e4'] at e4
    have e5 := wn_same k a (by omega) (by omega) (by omega) (by omega)
    have e6 := wn_out (-1 - k) k a (by omega)
    have e7 := wn_out k (-1 - k) a (by omega)
    have e8 := wn_out k k (1001 + a) (by omega)
    have e9 := wn_out k k (-1 - a) (by omega)
    rcases hu : decide (1000 * x ≤ a * k) with _ | _
    · exact walkF a0 a1 a2 a3 k x a b w hk hx ha hb h0.1 h0.2 h1.1 h1.2 h2.1 h2.2 h3.1 h3.2 (by omega) (e1.trans hu) (e2.trans hu) e4 e5 e6 e7 e8 e9
    · by_cases hab : a < b
      · have := of_decide_eq_true hu
        have h5 := Int.mul_le_mul_of_nonneg_right (Int.le_of_lt hab) k1
        exact walkTb a0 a1 a2 a3 k x a b w hk hx ha hb h0.1 h0.2 h1.1 h1.2 h2.1 h2.2 h3.1 h3.2 (by omega) (e1.trans hu) (e2.trans hu) hab (e3.trans (decide_eq_true (by omega))) e4 e5 e6 e7 e8 e9
      · exact walkTa a0 a1 a2 a3 k x a b w hk hx ha hb h0.1 h0.2 h1.1 h1.2 h2.1 h2.2 h3.1 h3.2 (by omega) (e1.trans hu) (e2.trans hu) (by omega) (e1.trans hu) e4 e5 e6 e7 e8 e9

theorem own : ownKnob Try.prog.godebug = none := by kernel_rfl
theorem laidOut : laidOutB Try.prog = true := by kernel_rfl

set_option maxRecDepth 100000 in
theorem lifted (os : Os) (started : os.Started) (H : Type) (enc : TypeId × Value → H) :
    ReturnsInHanded {} Try.checked os 7 .any (Rows.rateWithinSpec.pre6 enc Try.prog Try.f7 Rows.rateWithinRow.domain false) (Rows.rateWithinSpec.post enc Try.prog Try.f7 false true false false) := by
  refine returnsInHanded_of_change (C := Try.checked) own started (by kernel_rfl) Try.func7
    (ChangeSpec.witness6 (enc := enc) (C := Try.checked) false ⟨#[], #[.int .u32 0, .int .u32 0, .int .u16 0, .int .u16 0], []⟩ 8 (by kernel_rfl) (by kernel_rfl) (by kernel_rfl) (by kernel_rfl)) ?_
  intro W base args ds gs before hval0 hW hcnd _
  have hval : ∀ (j : Nat) t v, Try.f7.params[j]? = some t → args[j]? = some v → Value.okWide Try.prog W .any base t v := hval0
  have hW' := hW
  obtain ⟨p, q, hA0, hV, rfl, hfz, hnd⟩ := hW
  have hA : DataW.TrodAll enc Try.prog W 0 (fun _ => true) true Try.f7.params.toList args.toList ds p := hA0
  rw [Try.params7] at hA hval
  obtain ⟨v0, vs0, d0, ds0, p0, q0, hargs, rfl, rfl, h0, r0⟩ := trodAll_cons hA
  obtain ⟨v1, vs1, d1, ds1, p1, q1, rfl, rfl, rfl, h1, r1⟩ := trodAll_cons r0
  obtain ⟨v2, vs2, d2, ds2, p2, q2, rfl, rfl, rfl, h2, r2⟩ := trodAll_cons r1
  obtain ⟨v3, vs3, d3, ds3, p3, q3, rfl, rfl, rfl, h3, r3⟩ := trodAll_cons r2
  obtain ⟨rfl, rfl, rfl⟩ := trodAll_nil r3
  obtain rfl : args = #[v0, v1, v2, v3] := by cases args; simp_all
  obtain ⟨rfl, rfl⟩ := trodVars_none hV
  obtain ⟨a0, rfl, rfl, rfl, w0⟩ := open_int Try.underlying44 (hval 0 44 v0 rfl rfl) h0
  obtain ⟨a1, rfl, rfl, rfl, w1⟩ := open_int Try.underlying44 (hval 1 44 v1 rfl rfl) h1
  obtain ⟨a2, rfl, rfl, rfl, w2⟩ := open_int Try.underlying37 (hval 2 37 v2 rfl rfl) h2
  obtain ⟨a3, rfl, rfl, rfl, w3⟩ := open_int Try.underlying37 (hval 3 37 v3 rfl rfl) h3
  clear hA0 hval0
  refine (walk a0 a1 a2 a3 W w0 w1 w2 w3).mono fun e W' ⟨he, bel⟩ => ?_
  subst he
  exact ⟨_, rfl, _, _, _, [], _, [], hW', trodAll_mk1 (shut_bool Try.underlying4 _), (trodAll_cons_mk (shut_int Try.underlying44 w0) (trodAll_cons_mk (shut_int Try.underlying44 w1) (trodAll_cons_mk (shut_int Try.underlying37 w2) (trodAll_cons_mk (shut_int Try.underlying37 w3) trodAll_mk0)))), rfl, bel.frame _, fun h => by cases h⟩

theorem over : Rows.rateWithinRow.holds Try.pinned (OpenSpec.ofChange Rows.rateWithinSpec) :=
  OpenClaim.holds_of_wide 7 Try.f7 rfl rfl rfl rfl rfl rfl rfl ⟨rfl, rfl, rfl, rfl, rfl⟩ rfl rfl rfl rfl rfl (by kernel_rfl) Try.func7 (by kernel_rfl)
    (of_decide_eq_true (by kernel_rfl)) (by unfold Func.isWrapper; first | (rw [if_pos (by decide +kernel)]; kernel_rfl) | (rw [if_neg (by decide +kernel)]; exact ⟨rfl, rfl⟩))
    (fun os started H enc _ => lifted os started H enc)

/-- The statement. -/
theorem proved : Rows.RateWithinSaid := over
#print axioms proved
end Go.Proofs.Ytmlcjmgclfgbiaa.rateWithin
