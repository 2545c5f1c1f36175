/- The contracts of package view and of its reference: each tells what the functions here say, and leaves the world as it was. -/
import Derived.Test.YtdjfbojnobjfgaaRows
import Derived.WalkKit
import Derived.WalkSpells
import Derived.WalkLawsBesides
import Derived.Handy
import Derived.Test.YtdjfbojnobjfgaaMem
namespace Go.Proofs.Ytdjfbojnobjfgaa
open Go.RowKit
set_option linter.unusedVariables false

def quorumF (n : Int) : Int := if n < 1 ∨ 7 < n then 0 else n / 2 + 1
def leaderF (v n : Int) : Int := if v < 0 ∨ 2305843009213693952 < v ∨ n < 1 ∨ 7 < n then -1 else v % n
def ledF (v n h : Int) : Int := if v < 0 ∨ 2305843009213693952 < v ∨ n < 1 ∨ 7 < n ∨ h < 0 ∨ n ≤ h then -1 else v + (h - v) % n

set_option maxHeartbeats 400000 in
theorem some_any (n : Int) (w : World) : Calls Try.prog 41 #[.int .i64 n] w fun e w' => e = .returned (.bool (decide (1 ≤ n ∧ n ≤ 7))) ∧ w = w' := by
  by_cases h1 : 1 ≤ n
  · by_cases h2 : n ≤ 7
    · rw [decide_eq_true (⟨h1, h2⟩ : 1 ≤ n ∧ n ≤ 7)]
      go_enter Try.func41, Try.ntmps41
      go_wp2
      go_ret
      exact ⟨rfl, rfl⟩
    · rw [decide_eq_false (p := 1 ≤ n ∧ n ≤ 7) (by omega)]
      go_enter Try.func41, Try.ntmps41
      go_wp2
      go_ret
      exact ⟨rfl, rfl⟩
  · rw [decide_eq_false (p := 1 ≤ n ∧ n ≤ 7) (by omega)]
    go_enter Try.func41, Try.ntmps41
    go_wp2
    go_ret
    exact ⟨rfl, rfl⟩
def highB (v l : Int) : Bool := decide (l ≤ v ∧ v ≤ 2305843009213693952)
set_option maxHeartbeats 400000 in
theorem high_any (v l : Int) (w : World) : Calls Try.prog 42 #[.int .i64 v, .int .i64 l] w fun e w' => e = .returned (.bool (highB v l)) ∧ w = w' := by
  by_cases h1 : l ≤ v
  · by_cases h2 : v ≤ 2305843009213693952
    · rw [show highB v l = true from decide_eq_true ⟨h1, h2⟩]
      go_enter Try.func42, Try.ntmps42
      go_wp2
      go_ret
      exact ⟨rfl, rfl⟩
    · rw [show highB v l = false from decide_eq_false (by omega)]
      go_enter Try.func42, Try.ntmps42
      go_wp2
      go_ret
      exact ⟨rfl, rfl⟩
  · rw [show highB v l = false from decide_eq_false (by omega)]
    go_enter Try.func42, Try.ntmps42
    go_wp2
    go_ret
    exact ⟨rfl, rfl⟩

set_option maxHeartbeats 400000 in
theorem quorum_any (n : Int) (w : World) : Calls Try.prog 12 #[.int .i64 n] w fun e w' => e = .returned (.int .i64 (quorumF n)) ∧ w = w' := by
  by_cases h : n < 1 ∨ 7 < n
  · rw [show quorumF n = 0 from if_pos h]
    go_enter Try.func12, Try.ntmps12
    go_wp2
    all_goals (go_ret; exact ⟨rfl, rfl⟩)
  · rw [show quorumF n = n / 2 + 1 from if_neg h]
    have h1 : 1 ≤ n := by omega
    have h2 : n ≤ 7 := by omega
    clear h
    go_enter Try.func12, Try.ntmps12
    go_wp2
    go_ret
    exact ⟨rfl, rfl⟩
set_option maxHeartbeats 400000 in
theorem rquorum_any (n : Int) (w : World) : Calls Try.prog 33 #[.int .i64 n] w fun e w' => e = .returned (.int .i64 (quorumF n)) ∧ w = w' := by
  by_cases h : n < 1 ∨ 7 < n
  · rw [show quorumF n = 0 from if_pos h]
    have hd : decide (1 ≤ n ∧ n ≤ 7) = false := decide_eq_false (by omega)
    go_enter Try.func33, Try.ntmps33
    go_wp2_with (go_at_call 41; refine (some_any _ _).mono ?_; rintro e w' ⟨rfl, rfl⟩)
    all_goals (go_ret; exact ⟨rfl, rfl⟩)
  · rw [show quorumF n = n / 2 + 1 from if_neg h]
    have h1 : 1 ≤ n := by omega
    have h2 : n ≤ 7 := by omega
    have hd : decide (1 ≤ n ∧ n ≤ 7) = true := decide_eq_true ⟨h1, h2⟩
    clear h
    go_enter Try.func33, Try.ntmps33
    go_wp2_with (go_at_call 41; refine (some_any _ _).mono ?_; rintro e w' ⟨rfl, rfl⟩)
    go_ret
    exact ⟨rfl, rfl⟩

theorem mod_bd (v n : Int) (h : 1 ≤ n) : 0 ≤ v % n ∧ v % n < n := ⟨Int.emod_nonneg _ (by omega), Int.emod_lt_of_pos _ (by omega)⟩
theorem leaderF_bd (v n : Int) (h0 : 0 ≤ v) (h1 : v ≤ 2305843009213693952) (h2 : 1 ≤ n) (h3 : n ≤ 7) : leaderF v n = v % n := if_neg (by omega)
theorem leaderF_no (v n : Int) (h : v < 0 ∨ 2305843009213693952 < v ∨ n < 1 ∨ 7 < n) : leaderF v n = -1 := if_pos h

set_option maxHeartbeats 400000 in
theorem leader_any (v n : Int) (w : World) : Calls Try.prog 14 #[.int .i64 v, .int .i64 n] w fun e w' => e = .returned (.int .i64 (leaderF v n)) ∧ w = w' := by
  by_cases h : v < 0 ∨ 2305843009213693952 < v ∨ n < 1 ∨ 7 < n
  · rw [leaderF_no v n h]
    go_enter Try.func14, Try.ntmps14
    go_wp2
    all_goals (go_ret; exact ⟨rfl, rfl⟩)
  · have h1 : 1 ≤ n := by omega
    have h2 : n ≤ 7 := by omega
    have h3 : 0 ≤ v := by omega
    have h4 : v ≤ 2305843009213693952 := by omega
    rw [leaderF_bd v n h3 h4 h1 h2]
    clear h
    go_enter Try.func14, Try.ntmps14
    go_wp2
    go_ret
    exact ⟨rfl, rfl⟩
set_option maxHeartbeats 400000 in
theorem rleader_any (v n : Int) (w : World) : Calls Try.prog 34 #[.int .i64 v, .int .i64 n] w fun e w' => e = .returned (.int .i64 (leaderF v n)) ∧ w = w' := by
  by_cases h : v < 0 ∨ 2305843009213693952 < v
  · rw [leaderF_no v n (by omega)]
    have hd : highB v 0 = false := decide_eq_false (by omega)
    go_enter Try.func34, Try.ntmps34
    go_wp2_with (first | (go_at_call 41; refine (some_any _ _).mono ?_; rintro e w' ⟨rfl, rfl⟩) | (go_at_call 42; refine (high_any _ _ _).mono ?_; rintro e w' ⟨rfl, rfl⟩))
    all_goals (go_ret; exact ⟨rfl, rfl⟩)
  · have hd : highB v 0 = true := decide_eq_true (by omega)
    by_cases hn : n < 1 ∨ 7 < n
    · rw [leaderF_no v n (by omega)]
      have hs : decide (1 ≤ n ∧ n ≤ 7) = false := decide_eq_false (by omega)
      go_enter Try.func34, Try.ntmps34
      go_wp2_with (first | (go_at_call 41; refine (some_any _ _).mono ?_; rintro e w' ⟨rfl, rfl⟩) | (go_at_call 42; refine (high_any _ _ _).mono ?_; rintro e w' ⟨rfl, rfl⟩))
      all_goals (go_ret; exact ⟨rfl, rfl⟩)
    · have h1 : 1 ≤ n := by omega
      have h2 : n ≤ 7 := by omega
      have h3 : 0 ≤ v := by omega
      have h4 : v ≤ 2305843009213693952 := by omega
      have hs : decide (1 ≤ n ∧ n ≤ 7) = true := decide_eq_true ⟨h1, h2⟩
      rw [leaderF_bd v n h3 h4 h1 h2]
      clear h hn
      go_enter Try.func34, Try.ntmps34
      go_wp2_with (first | (go_at_call 41; refine (some_any _ _).mono ?_; rintro e w' ⟨rfl, rfl⟩) | (go_at_call 42; refine (high_any _ _ _).mono ?_; rintro e w' ⟨rfl, rfl⟩))
      go_ret
      exact ⟨rfl, rfl⟩

set_option maxHeartbeats 400000 in
theorem led_any (v n h : Int) (w : World) : Calls Try.prog 15 #[.int .i64 v, .int .i64 n, .int .i64 h] w fun e w' => e = .returned (.int .i64 (ledF v n h)) ∧ w = w' := by
  by_cases hb : v < 0 ∨ 2305843009213693952 < v ∨ n < 1 ∨ 7 < n
  · rw [show ledF v n h = -1 from if_pos (by omega)]
    have hl := leaderF_no v n hb
    go_enter Try.func15, Try.ntmps15
    go_wp2_with (go_at_call 14; refine (leader_any _ _ _).mono ?_; rintro e w' ⟨rfl, rfl⟩)
    all_goals (go_ret; exact ⟨rfl, rfl⟩)
  · have h1 : 1 ≤ n := by omega
    have h2 : n ≤ 7 := by omega
    have h3 : 0 ≤ v := by omega
    have h4 : v ≤ 2305843009213693952 := by omega
    have hl := leaderF_bd v n h3 h4 h1 h2
    have hm := mod_bd v n h1
    clear hb
    by_cases hh : h < 0 ∨ n ≤ h
    · rw [show ledF v n h = -1 from if_pos (by omega)]
      go_enter Try.func15, Try.ntmps15
      go_wp2_with (go_at_call 14; refine (leader_any _ _ _).mono ?_; rintro e w' ⟨rfl, rfl⟩)
      all_goals (go_ret; exact ⟨rfl, rfl⟩)
    · rw [show ledF v n h = v + (h - v) % n from if_neg (by omega)]
      have h5 : 0 ≤ h := by omega
      have h6 : h < n := by omega
      have hm2 := mod_bd (h - v) n h1
      clear hh
      go_enter Try.func15, Try.ntmps15
      go_wp2_with (go_at_call 14; refine (leader_any _ _ _).mono ?_; rintro e w' ⟨rfl, rfl⟩)
      go_ret
      exact ⟨rfl, rfl⟩

/-- The loop of the reference: the first view from v on that h leads. -/
theorem led_hit (v n h : Int) (h1 : 1 ≤ n) (h5 : 0 ≤ h) (h6 : h < n) : (v + (h - v) % n) % n = h := by
  rw [Int.add_emod, Int.emod_emod, ← Int.add_emod, show v + (h - v) = h from by omega]
  exact Int.emod_eq_of_lt h5 h6
theorem led_miss (v n h x : Int) (h1 : 1 ≤ n) (h5 : 0 ≤ h) (h6 : h < n) (hx : v ≤ x) (hl : x < v + (h - v) % n) : x % n ≠ h := by
  intro e
  have hm2 := mod_bd (h - v) n h1
  have hq : (x - v) % n = (h - v) % n := by
    rw [Int.sub_emod x v n, Int.sub_emod h v n, e, Int.emod_eq_of_lt h5 h6]
  rw [Int.emod_eq_of_lt (by omega) (by omega)] at hq
  omega

set_option maxHeartbeats 400000 in
theorem rled_any (v n h : Int) (w : World) : Calls Try.prog 35 #[.int .i64 v, .int .i64 n, .int .i64 h] w fun e w' => e = .returned (.int .i64 (ledF v n h)) ∧ w = w' := by
  by_cases hb : v < 0 ∨ 2305843009213693952 < v ∨ n < 1 ∨ 7 < n
  · rw [show ledF v n h = -1 from if_pos (by omega)]
    have hl := leaderF_no v n hb
    go_enter Try.func35, Try.ntmps35
    go_wp2_with (go_at_call 34; refine (rleader_any _ _ _).mono ?_; rintro e w' ⟨rfl, rfl⟩)
    all_goals (go_ret; exact ⟨rfl, rfl⟩)
  · have h1 : 1 ≤ n := by omega
    have h2 : n ≤ 7 := by omega
    have h3 : 0 ≤ v := by omega
    have h4 : v ≤ 2305843009213693952 := by omega
    have hl := leaderF_bd v n h3 h4 h1 h2
    have hm := mod_bd v n h1
    clear hb
    by_cases hh : h < 0 ∨ n ≤ h
    · rw [show ledF v n h = -1 from if_pos (by omega)]
      go_enter Try.func35, Try.ntmps35
      go_wp2_with (go_at_call 34; refine (rleader_any _ _ _).mono ?_; rintro e w' ⟨rfl, rfl⟩)
      all_goals (go_ret; exact ⟨rfl, rfl⟩)
    · rw [show ledF v n h = v + (h - v) % n from if_neg (by omega)]
      have h5 : 0 ≤ h := by omega
      have h6 : h < n := by omega
      have hm2 := mod_bd (h - v) n h1
      have hhit := led_hit v n h h1 h5 h6
      obtain ⟨t, Ht⟩ : ∃ t, Hid (v + (h - v) % n = t) := ⟨_, rfl⟩
      rw [Ht.out] at hhit ⊢
      have ht0 : v ≤ t := by have := Ht.out; omega
      have ht1 : t < v + 7 := by have := Ht.out; omega
      have Hmiss : Hid (∀ x, v ≤ x → x < t → x % n ≠ h) := fun x a b => led_miss v n h x h1 h5 h6 a (by rw [Ht.out]; exact b)
      clear hh hm2
      go_enter Try.func35, Try.ntmps35
      go_wp2_with (go_at_call 34; refine (rleader_any _ _ _).mono ?_; rintro e w' ⟨rfl, rfl⟩)
      go_loop [0] (fun x => ∃ y : Int, x = .int .i64 y ∧ v ≤ y ∧ y ≤ t) (fun x => (t - intOf x).toNat)
      case atStart => exact ⟨v, rfl, by omega, by omega⟩
      case round =>
        obtain ⟨y, rfl, hy0, hy1⟩ := hrel
        have hy2 := mod_bd y n h1
        by_cases hy : y = t
        · subst hy
          go_wp2_with fail
          go_ret
          exact ⟨rfl, rfl⟩
        · have hne := Hmiss.out y hy0 (by omega)
          go_wp2_with fail
          go_round
          case rel => exact ⟨y + 1, rfl, by omega, by omega⟩
          case measure => simp [intOf]; omega

/-- The doubling of a view's timeout, n times. -/
def dbl (m : Int) : Nat → Int → Int
  | 0, t => t
  | n + 1, t => dbl m n (if m < 2 * t then m else 2 * t)
theorem dbl_top (m : Int) (hm : 1 ≤ m) : ∀ n, dbl m n m = m
  | 0 => rfl
  | n + 1 => by rw [dbl, if_pos (by omega)]; exact dbl_top m hm n
theorem dbl_bd (m : Int) : ∀ n t, 1 ≤ t → t ≤ m → t ≤ dbl m n t ∧ dbl m n t ≤ m
  | 0, t, h0, h1 => ⟨Int.le_refl _, h1⟩
  | n + 1, t, h0, h1 => by
    rw [dbl]
    split
    · have := dbl_bd m n m (by omega) (by omega); omega
    · have := dbl_bd m n (2 * t) (by omega) (by omega); omega
theorem dbl_succ (m : Int) : ∀ n t, 1 ≤ t → t ≤ m → dbl m (n + 1) t = if m < 2 * dbl m n t then m else 2 * dbl m n t
  | 0, t, _, _ => rfl
  | n + 1, t, h0, h1 => by
    rw [dbl, dbl_succ m n _ (by split <;> omega) (by split <;> omega)]; rfl
def timeoutF (b m v : Int) : Int := if b < 1 ∨ m < b ∨ 1000000 < m ∨ v < 0 ∨ 2305843009213693952 < v then 0 else dbl m v.toNat b
theorem timeoutF_no (b m v : Int) (h : b < 1 ∨ m < b ∨ 1000000 < m ∨ v < 0 ∨ 2305843009213693952 < v) : timeoutF b m v = 0 := if_pos h
theorem timeoutF_in (b m v : Int) (h0 : 1 ≤ b) (h1 : b ≤ m) (h2 : m ≤ 1000000) (h3 : 0 ≤ v) (h4 : v ≤ 2305843009213693952) : timeoutF b m v = dbl m v.toNat b := if_neg (by omega)
theorem timeoutF_bd (b m v : Int) : 0 ≤ timeoutF b m v ∧ timeoutF b m v ≤ 1000000 := by
  unfold timeoutF
  split
  · omega
  · have := dbl_bd m v.toNat b (by omega) (by omega); omega

set_option maxHeartbeats 1000000 in
theorem timeout_any (b m v : Int) (w : World) : Calls Try.prog 30 #[.int .i64 b, .int .i64 m, .int .i64 v] w fun e w' => e = .returned (.int .i64 (timeoutF b m v)) ∧ w = w' := by
  by_cases h : b < 1 ∨ m < b ∨ 1000000 < m ∨ v < 0 ∨ 2305843009213693952 < v
  · rw [timeoutF_no b m v h]
    go_enter Try.func30, Try.ntmps30
    go_wp2
    all_goals (go_ret; exact ⟨rfl, rfl⟩)
  · have h0 : 1 ≤ b := by omega
    have h1 : b ≤ m := by omega
    have h2 : m ≤ 1000000 := by omega
    have h3 : 0 ≤ v := by omega
    have h4 : v ≤ 2305843009213693952 := by omega
    rw [timeoutF_in b m v h0 h1 h2 h3 h4]
    obtain ⟨R, HR⟩ : ∃ R, Hid (dbl m v.toNat b = R) := ⟨_, rfl⟩
    rw [HR.out]
    clear h
    go_enter Try.func30, Try.ntmps30
    go_wp2_with fail
    go_loop [2, 7] (fun x t => ∃ y z : Int, x = .int .i64 y ∧ t = .int .i64 z ∧ 0 ≤ y ∧ y ≤ v ∧ 1 ≤ z ∧ z ≤ m ∧ Hid (dbl m y.toNat z = R)) (fun x _ => (intOf x).toNat)
    case atStart => exact ⟨v, b, rfl, rfl, by omega, by omega, by omega, by omega, HR⟩
    case round =>
      obtain ⟨y, z, rfl, rfl, hy0, hy1, hz0, hz1, HE⟩ := hrel
      by_cases hy : 0 < y
      · by_cases hz : z < m
        · obtain ⟨z', Hz'⟩ : ∃ z', Hid ((if m < 2 * z then m else 2 * z) = z') := ⟨_, rfl⟩
          have ez := Hz'.out
          have hn : dbl m (y - 1).toNat z' = R := by
            have := HE.out
            rw [show y.toNat = (y - 1).toNat + 1 from by omega, dbl, ez] at this
            exact this
          have HN := Lib.hid hn
          have hz2 : 1 ≤ z' ∧ z' ≤ m := by omega
          clear hn
          go_wp2_with fail
          go_round
          case rel => exact ⟨y - 1, z', rfl, rfl, by omega, by omega, hz2.1, hz2.2, HN⟩
          case measure => simp [intOf]; omega
        · have e2 : z = R := by
            have := HE.out
            rw [show z = m from by omega, dbl_top m (by omega)] at this
            omega
          have H2 := Lib.hid e2
          clear e2
          go_wp2_with fail
          go_ret
          exact ⟨ret_int H2.out, rfl⟩
      · have e2 : z = R := by
          have := HE.out
          rw [show y = 0 from by omega] at this
          exact this
        have H2 := Lib.hid e2
        clear e2
        go_wp2_with fail
        go_ret
        exact ⟨ret_int H2.out, rfl⟩

set_option maxHeartbeats 1000000 in
theorem rtimeout_any (b m v : Int) (w : World) : Calls Try.prog 36 #[.int .i64 b, .int .i64 m, .int .i64 v] w fun e w' => e = .returned (.int .i64 (timeoutF b m v)) ∧ w = w' := by
  by_cases h : b < 1 ∨ m < b ∨ 1000000 < m
  · rw [timeoutF_no b m v (by omega)]
    go_enter Try.func36, Try.ntmps36
    go_wp2_with fail
    all_goals (go_ret; exact ⟨rfl, rfl⟩)
  · have h0 : 1 ≤ b := by omega
    have h1 : b ≤ m := by omega
    have h2 : m ≤ 1000000 := by omega
    clear h
    by_cases hv : v < 0 ∨ 2305843009213693952 < v
    · rw [timeoutF_no b m v (by omega)]
      have hd : highB v 0 = false := decide_eq_false (by omega)
      go_enter Try.func36, Try.ntmps36
      go_wp2_with (go_at_call 42; refine (high_any _ _ _).mono ?_; rintro e w' ⟨rfl, rfl⟩)
      all_goals (go_ret; exact ⟨rfl, rfl⟩)
    · have h3 : 0 ≤ v := by omega
      have h4 : v ≤ 2305843009213693952 := by omega
      have hd : highB v 0 = true := decide_eq_true (by omega)
      rw [timeoutF_in b m v h0 h1 h2 h3 h4]
      obtain ⟨R, HR⟩ : ∃ R, Hid (dbl m v.toNat b = R) := ⟨_, rfl⟩
      rw [HR.out]
      clear hv
      go_enter Try.func36, Try.ntmps36
      go_wp2_with (go_at_call 42; refine (high_any _ _ _).mono ?_; rintro e w' ⟨rfl, rfl⟩)
      go_loop [7, 8] (fun t x => ∃ y z : Int, x = .int .i64 y ∧ t = .int .i64 z ∧ 0 ≤ y ∧ y ≤ v ∧ 1 ≤ z ∧ z ≤ 2 * m ∧ Hid (dbl m (v - y).toNat (if m < z then m else z) = R)) (fun _ x => (v - intOf x).toNat)
      case atStart => exact ⟨0, b, rfl, rfl, by omega, by omega, by omega, by omega, by rw [if_neg (by omega), Int.sub_zero]; exact HR⟩
      case round =>
        obtain ⟨y, z, rfl, rfl, hy0, hy1, hz0, hz1, HE⟩ := hrel
        by_cases hy : y < v
        · by_cases hz : z < m
          · have hn : dbl m (v - (y + 1)).toNat (if m < 2 * z then m else 2 * z) = R := by
              have := HE.out
              rw [show (v - y).toNat = (v - (y + 1)).toNat + 1 from by omega, if_neg (by omega), dbl] at this
              exact this
            have HN := Lib.hid hn
            clear hn
            go_wp2_with fail
            go_round
            case rel => exact ⟨y + 1, 2 * z, rfl, rfl, by omega, by omega, by omega, by omega, HN⟩
            case measure => simp [intOf]; omega
          · have e2 : (if m < z then m else z) = R := by
              have := HE.out
              rw [show (if m < z then m else z) = m from by omega, dbl_top m (by omega)] at this
              omega
            have H2 := Lib.hid e2
            clear e2
            go_wp2_with fail
            all_goals (go_ret; exact ⟨ret_int (by have := H2.out; omega), rfl⟩)
        · have e2 : (if m < z then m else z) = R := by
            have := HE.out
            rw [show v - y = 0 from by omega] at this
            exact this
          have H2 := Lib.hid e2
          clear e2
          go_wp2_with fail
          all_goals (go_ret; exact ⟨ret_int (by have := H2.out; omega), rfl⟩)

theorem dbl_grows (m : Int) : ∀ n t, 1 ≤ t → t ≤ m → dbl m n t = m ∨ 2 ^ n * t ≤ dbl m n t
  | 0, t, _, _ => .inr (by simp [dbl])
  | n + 1, t, h0, h1 => by
    rw [dbl]
    split
    · exact .inl (dbl_top m (by omega) n)
    · rcases dbl_grows m n (2 * t) (by omega) (by omega) with h | h
      · exact .inl h
      · refine .inr ?_
        rw [Int.pow_succ, Int.mul_assoc]; exact h
theorem timeoutF_20 (b m : Int) (h0 : 1 ≤ b) (h1 : b ≤ m) (h2 : m ≤ 1000000) : timeoutF b m 20 = m := by
  rw [timeoutF_in b m 20 h0 h1 h2 (by omega) (by omega)]
  have a := dbl_bd m (20 : Int).toNat b h0 h1
  rcases dbl_grows m (20 : Int).toNat b h0 h1 with h | h
  · exact h
  · rw [show (20 : Int).toNat = 20 from rfl] at *
    rw [show (2 : Int) ^ 20 = 1048576 from by decide] at h
    omega
/-- The first view that lasts so long. -/
def reachGo (b m need : Int) : Nat → Nat → Nat
  | 0, v => v
  | f + 1, v => if timeoutF b m v < need then reachGo b m need f (v + 1) else v
def reachF (b m need : Int) : Nat := reachGo b m need 21 0
theorem reachGo_le (b m need : Int) : ∀ f v, reachGo b m need f v ≤ v + f
  | 0, v => Nat.le_refl _
  | f + 1, v => by
    rw [reachGo]; split
    · have := reachGo_le b m need f (v + 1); omega
    · omega

set_option maxHeartbeats 1000000 in
theorem reach_no (b m need : Int) (w : World) (h : b < 1 ∨ m < b ∨ 1000000 < m ∨ m < need) : Calls Try.prog 31 #[.int .i64 b, .int .i64 m, .int .i64 need] w fun e w' => e = .returned (.tuple #[.int .i64 0, .bool false]) ∧ w = w' := by
  by_cases h1 : b < 1 ∨ m < b ∨ 1000000 < m
  · have e0 := timeoutF_no b m 0 (by omega)
    go_enter Try.func31, Try.ntmps31
    go_wp2_with (go_at_call 30; refine (timeout_any _ _ _ _).mono ?_; rintro e w' ⟨rfl, rfl⟩)
    all_goals (go_ret2; exact ⟨rfl, rfl⟩)
  · have e0 := timeoutF_in b m 0 (by omega) (by omega) (by omega) (by omega) (by omega)
    have e1 : timeoutF b m 0 = b := e0
    have h2 : m < need := by omega
    have h3 : 1 ≤ b := by omega
    clear e0
    go_enter Try.func31, Try.ntmps31
    go_wp2_with (go_at_call 30; refine (timeout_any _ _ _ _).mono ?_; rintro e w' ⟨rfl, rfl⟩)
    all_goals (go_ret2; exact ⟨rfl, rfl⟩)

set_option maxHeartbeats 1000000 in
theorem reach_yes (b m need : Int) (w : World) (h0 : 1 ≤ b) (h1 : b ≤ m) (h2 : m ≤ 1000000) (h3 : need ≤ m) : Calls Try.prog 31 #[.int .i64 b, .int .i64 m, .int .i64 need] w fun e w' => e = .returned (.tuple #[.int .i64 (reachF b m need), .bool true]) ∧ w = w' := by
  have e0 := timeoutF_in b m 0 (by omega) (by omega) (by omega) (by omega) (by omega)
  have e1 : timeoutF b m 0 = b := e0
  have H20 := Lib.hid (timeoutF_20 b m h0 h1 h2)
  clear e0
  have HR : Hid (reachGo b m need 21 0 = reachF b m need) := rfl
  have hb0 : (b == 0) = false := by rw [beq_eq_false_iff_ne]; omega
  have hmn : decide (m < need) = false := decide_eq_false (by omega)
  go_enter Try.func31, Try.ntmps31
  go_wp2_with (go_at_call 30; refine (timeout_any _ _ _ _).mono ?_; rintro e w' ⟨rfl, rfl⟩)
  clear e1
  go_loop [8] (fun x => ∃ k : Nat, x = .int .i64 k ∧ k ≤ 20 ∧ Hid (reachGo b m need (21 - k) k = reachF b m need)) (fun x => 20 - (intOf x).toNat)
  case atStart => exact ⟨0, rfl, by omega, HR⟩
  case round =>
    obtain ⟨k, rfl, hk, HE⟩ := hrel
    have tb := timeoutF_bd b m k
    by_cases hlt : timeoutF b m k < need
    · have hk2 : k < 20 := by
        have := H20.out
        rcases Nat.lt_or_ge k 20 with h | h
        · exact h
        · rw [show k = 20 from by omega] at hlt; simp at hlt; omega
      have hn : reachGo b m need (21 - (k + 1)) (k + 1) = reachF b m need := by
        have := HE.out
        rw [show 21 - k = (21 - (k + 1)) + 1 from by omega, reachGo, if_pos hlt] at this
        exact this
      have HN := Lib.hid hn
      clear hn
      go_wp2_with (go_at_call 30; refine (timeout_any _ _ _ _).mono ?_; rintro e w' ⟨rfl, rfl⟩)
      go_round
      case rel => exact ⟨k + 1, by go_num, by omega, HN⟩
      case measure => simp [intOf]; omega
    · have hn : k = reachF b m need := by
        have := HE.out
        rw [show 21 - k = (21 - (k + 1)) + 1 from by omega, reachGo, if_neg hlt] at this
        exact this
      have HN := Lib.hid hn
      clear hn
      go_wp2_with (go_at_call 30; refine (timeout_any _ _ _ _).mono ?_; rintro e w' ⟨rfl, rfl⟩)
      go_ret2
      exact ⟨by rw [← HN.out]; rfl, rfl⟩

set_option maxHeartbeats 1000000 in
theorem rreach_no (b m need : Int) (w : World) (h : b < 1 ∨ m < b ∨ 1000000 < m ∨ m < need) : Calls Try.prog 32 #[.int .i64 b, .int .i64 m, .int .i64 need] w fun e w' => e = .returned (.tuple #[.int .i64 0, .bool false]) ∧ w = w' := by
  by_cases h1 : b < 1 ∨ m < b ∨ 1000000 < m
  · have e0 := timeoutF_no b m 0 (by omega)
    go_enter Try.func32, Try.ntmps32
    go_wp2_with (go_at_call 36; refine (rtimeout_any _ _ _ _).mono ?_; rintro e w' ⟨rfl, rfl⟩)
    all_goals (go_ret2; exact ⟨rfl, rfl⟩)
  · have e0 := timeoutF_in b m 0 (by omega) (by omega) (by omega) (by omega) (by omega)
    have e1 : timeoutF b m 0 = b := e0
    have h2 : m < need := by omega
    have h3 : 1 ≤ b := by omega
    clear e0
    go_enter Try.func32, Try.ntmps32
    go_wp2_with (go_at_call 36; refine (rtimeout_any _ _ _ _).mono ?_; rintro e w' ⟨rfl, rfl⟩)
    all_goals (go_ret2; exact ⟨rfl, rfl⟩)

set_option maxHeartbeats 1000000 in
theorem rreach_yes (b m need : Int) (w : World) (h0 : 1 ≤ b) (h1 : b ≤ m) (h2 : m ≤ 1000000) (h3 : need ≤ m) : Calls Try.prog 32 #[.int .i64 b, .int .i64 m, .int .i64 need] w fun e w' => e = .returned (.tuple #[.int .i64 (reachF b m need), .bool true]) ∧ w = w' := by
  have e0 := timeoutF_in b m 0 (by omega) (by omega) (by omega) (by omega) (by omega)
  have e1 : timeoutF b m 0 = b := e0
  have H20 := Lib.hid (timeoutF_20 b m h0 h1 h2)
  clear e0
  have HR : Hid (reachGo b m need 21 0 = reachF b m need) := rfl
  have hb0 : (b == 0) = false := by rw [beq_eq_false_iff_ne]; omega
  have hmn : decide (m < need) = false := decide_eq_false (by omega)
  go_enter Try.func32, Try.ntmps32
  go_wp2_with (go_at_call 36; refine (rtimeout_any _ _ _ _).mono ?_; rintro e w' ⟨rfl, rfl⟩)
  clear e1
  go_loop [8] (fun x => ∃ k : Nat, x = .int .i64 k ∧ k ≤ 20 ∧ Hid (reachGo b m need (21 - k) k = reachF b m need)) (fun x => 20 - (intOf x).toNat)
  case atStart => exact ⟨0, rfl, by omega, HR⟩
  case round =>
    obtain ⟨k, rfl, hk, HE⟩ := hrel
    have tb := timeoutF_bd b m k
    by_cases hlt : timeoutF b m k < need
    · have hk2 : k < 20 := by
        have := H20.out
        rcases Nat.lt_or_ge k 20 with h | h
        · exact h
        · rw [show k = 20 from by omega] at hlt; simp at hlt; omega
      have hn : reachGo b m need (21 - (k + 1)) (k + 1) = reachF b m need := by
        have := HE.out
        rw [show 21 - k = (21 - (k + 1)) + 1 from by omega, reachGo, if_pos hlt] at this
        exact this
      have HN := Lib.hid hn
      clear hn
      go_wp2_with (go_at_call 36; refine (rtimeout_any _ _ _ _).mono ?_; rintro e w' ⟨rfl, rfl⟩)
      go_round
      case rel => exact ⟨k + 1, by go_num, by omega, HN⟩
      case measure => simp [intOf]; omega
    · have hn : k = reachF b m need := by
        have := HE.out
        rw [show 21 - k = (21 - (k + 1)) + 1 from by omega, reachGo, if_neg hlt] at this
        exact this
      have HN := Lib.hid hn
      clear hn
      go_wp2_with (go_at_call 36; refine (rtimeout_any _ _ _ _).mono ?_; rintro e w' ⟨rfl, rfl⟩)
      go_ret2
      exact ⟨by rw [← HN.out]; rfl, rfl⟩
end Go.Proofs.Ytdjfbojnobjfgaa
