/- The contracts of view.MayConf and of its reference: each tells what mayB says. -/
import Derived.Test.YtdjfbojnobjfgaaRows
import Derived.WalkKit
import Derived.WalkSpells
import Derived.WalkLawsBesides
import Derived.Handy
import Derived.Test.YtdjfbojnobjfgaaMem
import Derived.Test.YtdjfbojnobjfgaaView
namespace Go.Proofs.Ytdjfbojnobjfgaa
open Go.RowKit
set_option linter.unusedVariables false

def tickB (n l : Int) : Bool := decide (l ≤ n ∧ n ≤ 1000000)
theorem tickB_t {n l : Int} (h : l ≤ n ∧ n ≤ 1000000) : tickB n l = true := decide_eq_true h
theorem tickB_f {n l : Int} (h : ¬ (l ≤ n ∧ n ≤ 1000000)) : tickB n l = false := decide_eq_false h
def mayB (a0 a1 a2 a3 a4 a5 a6 a7 a8 a9 a10 : Int) : Bool :=
  decide ((1 ≤ a0 ∧ a0 ≤ 7 ∧ a0 % 2 = 1 ∧ 1 ≤ a1 ∧ a1 ≤ 8) ∧ ((1 ≤ a2 ∧ a2 ≤ 1000000) ∧ (1 ≤ a4 ∧ a4 ≤ 1000000) ∧ (1 ≤ a5 ∧ a5 ≤ 1000000) ∧ (1 ≤ a6 ∧ a6 ≤ 1000000) ∧ (1 ≤ a8 ∧ a8 ≤ 1000000) ∧ (1 ≤ a9 ∧ a9 ≤ 1000000) ∧ (1 ≤ a10 ∧ a10 ≤ 1000000)) ∧ (0 ≤ a7 ∧ a7 ≤ 1000000) ∧ a4 ≤ a5 ∧ 0 ≤ a3 ∧ a3 ≤ 200)
set_option maxHeartbeats 400000 in
theorem ticks_any (n : Int) (w : World) : Calls Try.prog 38 #[.int .i64 n] w fun e w' => e = .returned (.bool (tickB n 1)) ∧ w = w' := by
  by_cases h1 : 1 ≤ n
  · by_cases h2 : n ≤ 1000000
    · rw [tickB_t ⟨h1, h2⟩]
      go_enter Try.func38, Try.ntmps38
      go_wp2
      go_ret
      exact ⟨rfl, rfl⟩
    · rw [tickB_f (by omega)]
      go_enter Try.func38, Try.ntmps38
      go_wp2
      go_ret
      exact ⟨rfl, rfl⟩
  · rw [tickB_f (by omega)]
    go_enter Try.func38, Try.ntmps38
    go_wp2
    go_ret
    exact ⟨rfl, rfl⟩
set_option maxHeartbeats 400000 in
theorem rticks_any (n l : Int) (w : World) : Calls Try.prog 43 #[.int .i64 n, .int .i64 l] w fun e w' => e = .returned (.bool (tickB n l)) ∧ w = w' := by
  by_cases h1 : l ≤ n
  · by_cases h2 : n ≤ 1000000
    · rw [tickB_t ⟨h1, h2⟩]
      go_enter Try.func43, Try.ntmps43
      go_wp2
      go_ret
      exact ⟨rfl, rfl⟩
    · rw [tickB_f (by omega)]
      go_enter Try.func43, Try.ntmps43
      go_wp2
      go_ret
      exact ⟨rfl, rfl⟩
  · rw [tickB_f (by omega)]
    go_enter Try.func43, Try.ntmps43
    go_wp2
    go_ret
    exact ⟨rfl, rfl⟩

/-- The seven numbers that are asked one by one. -/
def pick7 (x0 x1 x2 x3 x4 x5 x6 : Int) : Nat → Int
  | 0 => x0 | 1 => x1 | 2 => x2 | 3 => x3 | 4 => x4 | 5 => x5 | _ => x6
theorem index7_0 (x0 x1 x2 x3 x4 x5 x6 : Int) (w : World) : (Instr.index 61 (.agg #[.int .i64 x0, .int .i64 x1, .int .i64 x2, .int .i64 x3, .int .i64 x4, .int .i64 x5, .int .i64 x6]) (.int .i64 0)).run Try.prog w = .ok (.int .i64 x0) w := by kernel_rfl
theorem index7_1 (x0 x1 x2 x3 x4 x5 x6 : Int) (w : World) : (Instr.index 61 (.agg #[.int .i64 x0, .int .i64 x1, .int .i64 x2, .int .i64 x3, .int .i64 x4, .int .i64 x5, .int .i64 x6]) (.int .i64 1)).run Try.prog w = .ok (.int .i64 x1) w := by kernel_rfl
theorem index7_2 (x0 x1 x2 x3 x4 x5 x6 : Int) (w : World) : (Instr.index 61 (.agg #[.int .i64 x0, .int .i64 x1, .int .i64 x2, .int .i64 x3, .int .i64 x4, .int .i64 x5, .int .i64 x6]) (.int .i64 2)).run Try.prog w = .ok (.int .i64 x2) w := by kernel_rfl
theorem index7_3 (x0 x1 x2 x3 x4 x5 x6 : Int) (w : World) : (Instr.index 61 (.agg #[.int .i64 x0, .int .i64 x1, .int .i64 x2, .int .i64 x3, .int .i64 x4, .int .i64 x5, .int .i64 x6]) (.int .i64 3)).run Try.prog w = .ok (.int .i64 x3) w := by kernel_rfl
theorem index7_4 (x0 x1 x2 x3 x4 x5 x6 : Int) (w : World) : (Instr.index 61 (.agg #[.int .i64 x0, .int .i64 x1, .int .i64 x2, .int .i64 x3, .int .i64 x4, .int .i64 x5, .int .i64 x6]) (.int .i64 4)).run Try.prog w = .ok (.int .i64 x4) w := by kernel_rfl
theorem index7_5 (x0 x1 x2 x3 x4 x5 x6 : Int) (w : World) : (Instr.index 61 (.agg #[.int .i64 x0, .int .i64 x1, .int .i64 x2, .int .i64 x3, .int .i64 x4, .int .i64 x5, .int .i64 x6]) (.int .i64 5)).run Try.prog w = .ok (.int .i64 x5) w := by kernel_rfl
theorem index7_6 (x0 x1 x2 x3 x4 x5 x6 : Int) (w : World) : (Instr.index 61 (.agg #[.int .i64 x0, .int .i64 x1, .int .i64 x2, .int .i64 x3, .int .i64 x4, .int .i64 x5, .int .i64 x6]) (.int .i64 6)).run Try.prog w = .ok (.int .i64 x6) w := by kernel_rfl
theorem index7 (x0 x1 x2 x3 x4 x5 x6 : Int) (k : Nat) (hk : k < 7) (w : World) :
    (Instr.index 61 (.agg #[.int .i64 x0, .int .i64 x1, .int .i64 x2, .int .i64 x3, .int .i64 x4, .int .i64 x5, .int .i64 x6]) (.int .i64 (k : Int))).run Try.prog w = .ok (.int .i64 (pick7 x0 x1 x2 x3 x4 x5 x6 k)) w := by
  match k, hk with
  | 0, _ => exact index7_0 x0 x1 x2 x3 x4 x5 x6 w
  | 1, _ => exact index7_1 x0 x1 x2 x3 x4 x5 x6 w
  | 2, _ => exact index7_2 x0 x1 x2 x3 x4 x5 x6 w
  | 3, _ => exact index7_3 x0 x1 x2 x3 x4 x5 x6 w
  | 4, _ => exact index7_4 x0 x1 x2 x3 x4 x5 x6 w
  | 5, _ => exact index7_5 x0 x1 x2 x3 x4 x5 x6 w
  | 6, _ => exact index7_6 x0 x1 x2 x3 x4 x5 x6 w

set_option maxHeartbeats 1000000 in
theorem mayconf_any (a0 a1 a2 a3 a4 a5 a6 a7 a8 a9 a10 : Int) (w : World) :
    Calls Try.prog 17 #[.agg #[.int .i64 a0, .int .i64 a1, .int .i64 a2, .int .i64 a3, .int .i64 a4, .int .i64 a5, .int .i64 a6, .int .i64 a7, .int .i64 a8, .int .i64 a9, .int .i64 a10]] w
      fun e w' => e = .returned (.bool (mayB a0 a1 a2 a3 a4 a5 a6 a7 a8 a9 a10)) ∧ w' = w.alloc (.cells #[.int .i64 a0, .int .i64 a1, .int .i64 a2, .int .i64 a3, .int .i64 a4, .int .i64 a5, .int .i64 a6, .int .i64 a7, .int .i64 a8, .int .i64 a9, .int .i64 a10] 33) := by
  by_cases h1 : a0 < 1 ∨ 7 < a0 ∨ a0 % 2 = 0 ∨ a1 < 1 ∨ 8 < a1
  · rw [show mayB a0 a1 a2 a3 a4 a5 a6 a7 a8 a9 a10 = false from decide_eq_false (by omega)]
    go_enter Try.func17, Try.ntmps17
    go_wp2_with fail
    all_goals (go_ret; exact ⟨rfl, rfl⟩)
  · have g0 : 1 ≤ a0 := by omega
    have g1 : a0 ≤ 7 := by omega
    have g2 : (a0 % 2 == 0) = false := by rw [beq_eq_false_iff_ne]; omega
    have g3 : 1 ≤ a1 := by omega
    have g4 : a1 ≤ 8 := by omega
    have H1 := Lib.hid h1
    clear h1
    go_enter Try.func17, Try.ntmps17
    go_wp2_with fail
    go_loop [44] (fun x => ∃ k : Nat, x = .int .i64 k ∧ k ≤ 7 ∧ Hid (∀ j, j < k → 1 ≤ pick7 a2 a4 a5 a6 a8 a9 a10 j ∧ pick7 a2 a4 a5 a6 a8 a9 a10 j ≤ 1000000)) (fun x => 7 - (intOf x).toNat)
    case atStart => exact ⟨0, rfl, by omega, fun j hj => by omega⟩
    case round =>
      obtain ⟨k, rfl, hk, HE⟩ := hrel
      by_cases hlt : k < 7
      · have hix := fun wx => index7 a2 a4 a5 a6 a8 a9 a10 k hlt wx
        by_cases ht : 1 ≤ pick7 a2 a4 a5 a6 a8 a9 a10 k ∧ pick7 a2 a4 a5 a6 a8 a9 a10 k ≤ 1000000
        · have htb := tickB_t ht
          have HN : Hid (∀ j, j < k + 1 → 1 ≤ pick7 a2 a4 a5 a6 a8 a9 a10 j ∧ pick7 a2 a4 a5 a6 a8 a9 a10 j ≤ 1000000) := fun j hj => by
            rcases Nat.lt_or_ge j k with h | h
            · exact HE.out j h
            · rw [show j = k from by omega]; exact ht
          clear ht
          go_wp2_with (go_at_call 38; refine (ticks_any _ _).mono ?_; rintro e w' ⟨rfl, rfl⟩)
          go_round
          case rel => exact ⟨k + 1, by go_num, by omega, HN⟩
          case measure => simp [intOf]; omega
        · have htb := tickB_f ht
          have hno : mayB a0 a1 a2 a3 a4 a5 a6 a7 a8 a9 a10 = false := decide_eq_false (by
            match k, hlt with
            | 0, _ => simp only [pick7] at ht; omega
            | 1, _ => simp only [pick7] at ht; omega
            | 2, _ => simp only [pick7] at ht; omega
            | 3, _ => simp only [pick7] at ht; omega
            | 4, _ => simp only [pick7] at ht; omega
            | 5, _ => simp only [pick7] at ht; omega
            | 6, _ => simp only [pick7] at ht; omega)
          have HN := Lib.hid hno
          clear ht hno
          go_wp2_with (go_at_call 38; refine (ticks_any _ _).mono ?_; rintro e w' ⟨rfl, rfl⟩)
          go_ret
          exact ⟨by rw [HN.out]; rfl, rfl⟩
      · have hall := HE.out
        have t0 := hall 0 (by omega)
        have t1 := hall 1 (by omega)
        have t2 := hall 2 (by omega)
        have t3 := hall 3 (by omega)
        have t4 := hall 4 (by omega)
        have t5 := hall 5 (by omega)
        have t6 := hall 6 (by omega)
        simp only [pick7] at t0 t1 t2 t3 t4 t5 t6
        have hlast : mayB a0 a1 a2 a3 a4 a5 a6 a7 a8 a9 a10 = decide ((0 ≤ a7 ∧ a7 ≤ 1000000) ∧ a4 ≤ a5 ∧ 0 ≤ a3 ∧ a3 ≤ 200) := by
          have := H1.out
          unfold mayB; rw [decide_eq_decide]; omega
        have HL := Lib.hid hlast
        clear hall t0 t1 t2 t3 t4 t5 t6 hlast
        go_wp2_with fail
        all_goals go_ret
        all_goals (refine ⟨ret_bool ?_, rfl⟩; rw [HL.out])
        all_goals first | (rw [decide_eq_decide]; omega) | (symm; exact decide_eq_false (by omega)) | (go_show; sorry)

theorem mayconf_own (a0 a1 a2 a3 a4 a5 a6 a7 a8 a9 a10 : Int) (w : World) :
    Calls Try.prog 17 #[.agg #[.int .i64 a0, .int .i64 a1, .int .i64 a2, .int .i64 a3, .int .i64 a4, .int .i64 a5, .int .i64 a6, .int .i64 a7, .int .i64 a8, .int .i64 a9, .int .i64 a10]] w
      fun e w' => e = .returned (.bool (mayB a0 a1 a2 a3 a4 a5 a6 a7 a8 a9 a10)) ∧ w.grownBy w' none :=
  (mayconf_any a0 a1 a2 a3 a4 a5 a6 a7 a8 a9 a10 w).mono fun e w' ⟨he, hw⟩ => by subst hw; exact ⟨he, World.grownBy_alloc _ _ _⟩

set_option maxHeartbeats 4000000 in
theorem rmayconf_own (a0 a1 a2 a3 a4 a5 a6 a7 a8 a9 a10 : Int) (w : World) :
    Calls Try.prog 37 #[.agg #[.int .i64 a0, .int .i64 a1, .int .i64 a2, .int .i64 a3, .int .i64 a4, .int .i64 a5, .int .i64 a6, .int .i64 a7, .int .i64 a8, .int .i64 a9, .int .i64 a10]] w
      fun e w' => e = .returned (.bool (mayB a0 a1 a2 a3 a4 a5 a6 a7 a8 a9 a10)) ∧ w.grownBy w' none := by
  by_cases h1 : (a0 ≠ 1 ∧ a0 ≠ 3 ∧ a0 ≠ 5 ∧ a0 ≠ 7) ∨ a1 < 1 ∨ 8 < a1
  · rw [show mayB a0 a1 a2 a3 a4 a5 a6 a7 a8 a9 a10 = false from decide_eq_false (by omega)]
    go_enter Try.func37, Try.ntmps37
    go_wp2_with fail
    all_goals (go_ret; exact ⟨rfl, World.grownBy_alloc _ _ _⟩)
  · have H1 := Lib.hid h1
    have g3 : 1 ≤ a1 := by omega
    have g4 : a1 ≤ 8 := by omega
    have g0 : a0 = 1 ∨ a0 = 3 ∨ a0 = 5 ∨ a0 = 7 := by omega
    clear h1
    rcases g0 with rfl | rfl | rfl | rfl
    all_goals
      go_enter Try.func37, Try.ntmps37
      go_wp2_with (go_at_call 43; refine (rticks_any _ _ _).mono ?_; rintro e w' ⟨rfl, rfl⟩)
      all_goals go_ret
      all_goals refine ⟨ret_bool ?_, World.grownBy_alloc _ _ _⟩
      all_goals simp only [tickB, Bool.not_eq_true', Bool.not_eq_false', decide_eq_true_eq, decide_eq_false_iff_not] at *
      all_goals unfold mayB
      all_goals first | (rw [decide_eq_decide]; omega) | (symm; exact decide_eq_false (by omega))
end Go.Proofs.Ytdjfbojnobjfgaa

