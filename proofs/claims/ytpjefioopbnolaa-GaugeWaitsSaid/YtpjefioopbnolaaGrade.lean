/- The contracts of gauge.Grade and of the document's Grade. -/
import Derived.Test.YtpjefioopbnolaaRows
import Derived.WalkKit
import Derived.WalkSpells
import Derived.WalkLawsBesides
import Derived.Handy
import Derived.Test.YtpjefioopbnolaaMem
import Derived.Test.YtpjefioopbnolaaFl
import Derived.Test.YtpjefioopbnolaaFlRun
import Derived.Test.YtpjefioopbnolaaBits2
import Derived.Test.YtpjefioopbnolaaInf
namespace Go.Proofs.Ytpjefioopbnolaa
open Go.RowKit
set_option linter.unusedVariables false

open Fl
/-- Of what sort a float is. -/
def gradeF (x : Nat) : Int := if isN x then 0 else if sg x then 1 else if rg x = 0 then 2 else if rg x < 4607182418800017408 then 3 else if rg x = 4607182418800017408 then 4 else if rg x = inf then 6 else 5
/-- All that the two ask, by the sort. -/
theorem grade_cases (x : Nat) (hx : x < 18446744073709551616) :
    ∃ p1 p2 p3 p4 p5 p6 p7 : Bool, isN x = p1 ∧ flt x 0 = p2 ∧ feq x 0 = p3 ∧ sg x = p4 ∧ flt x 4607182418800017408 = p5 ∧ feq x 4607182418800017408 = p6 ∧ flt 9218868437227405311 x = p7 ∧
      ((p1 = true ∧ p2 = false ∧ p3 = false ∧ p5 = false ∧ p6 = false ∧ p7 = false ∧ gradeF x = 0) ∨
       (p1 = false ∧ p2 = true ∧ p3 = false ∧ p4 = true ∧ gradeF x = 1) ∨
       (p1 = false ∧ p2 = false ∧ p3 = true ∧ p4 = true ∧ gradeF x = 1) ∨
       (p1 = false ∧ p2 = false ∧ p3 = true ∧ p4 = false ∧ gradeF x = 2) ∨
       (p1 = false ∧ p2 = false ∧ p3 = false ∧ p4 = false ∧ p5 = true ∧ gradeF x = 3) ∨
       (p1 = false ∧ p2 = false ∧ p3 = false ∧ p4 = false ∧ p5 = false ∧ p6 = true ∧ gradeF x = 4) ∨
       (p1 = false ∧ p2 = false ∧ p3 = false ∧ p4 = false ∧ p5 = false ∧ p6 = false ∧ p7 = true ∧ gradeF x = 6) ∨
       (p1 = false ∧ p2 = false ∧ p3 = false ∧ p4 = false ∧ p5 = false ∧ p6 = false ∧ p7 = false ∧ gradeF x = 5)) := by
  refine ⟨_, _, _, _, _, _, _, rfl, rfl, rfl, rfl, rfl, rfl, rfl, ?_⟩
  have n0 : isN 0 = false := by decide
  have n1 : isN 4607182418800017408 = false := by decide
  have nm : isN 9218868437227405311 = false := by decide
  have k1 : Fl.key 4607182418800017408 = 4607182418800017408 := by decide
  have km : Fl.key 9218868437227405311 = 9218868437227405311 := by decide
  have hi : inf = 9218868437227405312 := rfl
  unfold gradeF
  rcases hn : isN x with _ | _
  · have hr : rg x ≤ inf := by unfold isN at hn; simpa using hn
    have f1 : flt x 0 = decide (Fl.key x < 0) := by unfold flt; rw [hn, n0, key0]; rfl
    have f2 : feq x 0 = decide (Fl.key x = 0) := by unfold feq; rw [hn, n0, key0]; rfl
    have f3 : flt x 4607182418800017408 = decide (Fl.key x < 4607182418800017408) := by unfold flt; rw [hn, n1, k1]; rfl
    have f4 : feq x 4607182418800017408 = decide (Fl.key x = 4607182418800017408) := by unfold feq; rw [hn, n1, k1]; rfl
    have f5 : flt 9218868437227405311 x = decide (9218868437227405311 < Fl.key x) := by unfold flt; rw [hn, nm, km]; rfl
    rw [f1, f2, f3, f4, f5]
    rcases hs : sg x with _ | _
    · have hk : Fl.key x = rg x := by unfold Fl.key; rw [hs]; rfl
      rw [hk]
      simp only [Bool.false_eq_true, if_false, decide_eq_true_eq, decide_eq_false_iff_not]
      by_cases h0 : rg x = 0
      · right; right; right; left; rw [if_pos h0]; and_intros <;> first | omega | rfl | trivial
      · rw [if_neg h0]
        by_cases h1 : rg x < 4607182418800017408
        · right; right; right; right; left; rw [if_pos h1]; and_intros <;> first | omega | rfl | trivial
        · rw [if_neg h1]
          by_cases h2 : rg x = 4607182418800017408
          · right; right; right; right; right; left; rw [if_pos h2]; and_intros <;> first | omega | rfl | trivial
          · rw [if_neg h2]
            by_cases h3 : rg x = inf
            · right; right; right; right; right; right; left; rw [if_pos h3]; and_intros <;> first | omega | rfl | trivial
            · right; right; right; right; right; right; right; rw [if_neg h3]; and_intros <;> first | omega | rfl | trivial
    · have hk : Fl.key x = -(rg x : Int) := by unfold Fl.key; rw [hs]; rfl
      rw [hk]
      simp only [Bool.false_eq_true, if_false, if_true, decide_eq_true_eq, decide_eq_false_iff_not]
      by_cases h0 : rg x = 0
      · right; right; left; and_intros <;> first | omega | rfl | trivial
      · right; left; and_intros <;> first | omega | rfl | trivial
  · left
    have g : ∀ y, flt x y = false := fun y => by unfold flt; rw [hn]; rfl
    have g2 : ∀ y, feq x y = false := fun y => by unfold feq; rw [hn]; rfl
    have g3 : ∀ y, flt y x = false := fun y => by unfold flt; rw [hn]; simp
    rw [g, g2, g, g2, g3]
    exact ⟨rfl, rfl, rfl, rfl, rfl, rfl, rfl⟩
set_option maxHeartbeats 1000000 in
theorem grade_any (x : Nat) (hx : x < 18446744073709551616) (w : World) :
    Calls Try.prog 17 #[.float .f64 x] w fun e w' => e = .returned (.int .i64 (gradeF x)) ∧ w = w' := by
  obtain ⟨p1, p2, p3, p4, p5, p6, p7, f1, f2, f3, f4, f5, f6, f7, hcase⟩ := grade_cases x hx
  have a1 := (cmp_ne x x).trans (by rw [feq_self, Bool.not_not, f1])
  have a2 := (cmp_lt x 0).trans f2
  have a3 := (cmp_eq x 0).trans f3
  have a5 := (cmp_lt x 4607182418800017408).trans f5
  have a6 := (cmp_eq x 4607182418800017408).trans f6
  have HS := Lib.hid (signbit_any x hx)
  have HI := Lib.hid (isinf_up x)
  rcases hcase with ⟨rfl, rfl, rfl, rfl, rfl, rfl, hg⟩ | ⟨rfl, rfl, rfl, rfl, hg⟩ | ⟨rfl, rfl, rfl, rfl, hg⟩ | ⟨rfl, rfl, rfl, rfl, hg⟩ | ⟨rfl, rfl, rfl, rfl, rfl, hg⟩ | ⟨rfl, rfl, rfl, rfl, rfl, rfl, hg⟩ | ⟨rfl, rfl, rfl, rfl, rfl, rfl, rfl, hg⟩ | ⟨rfl, rfl, rfl, rfl, rfl, rfl, rfl, hg⟩
  all_goals (
    rw [hg]
    clear hg
    have F4 := Lib.hid f4
    have F7 := Lib.hid f7
    clear f1 f2 f3 f4 f5 f6 f7
    go_enter Try.func17, Try.ntmps17
    go_wp2_with fail)
  all_goals try ((with_reducible refine (HS.out _).mono ?_); rw [F4.out]; rintro e w' ⟨rfl, rfl⟩; go_wp2_with fail)
  all_goals try ((with_reducible refine (HI.out _).mono ?_); rw [F7.out]; rintro e w' ⟨rfl, rfl⟩; go_wp2_with fail)
  all_goals (go_ret; exact ⟨rfl, rfl⟩)
set_option maxHeartbeats 1000000 in
theorem rgrade_any (x : Nat) (hx : x < 18446744073709551616) (w : World) :
    Calls Try.prog 19 #[.float .f64 x] w fun e w' => e = .returned (.int .i64 (gradeF x)) ∧ w = w' := by
  obtain ⟨p1, p2, p3, p4, p5, p6, p7, f1, f2, f3, f4, f5, f6, f7, hcase⟩ := grade_cases x hx
  have a1 := (cmp_ne x x).trans (by rw [feq_self, Bool.not_not, f1])
  have a2 := (cmp_lt x 0).trans f2
  have a3 := (cmp_eq x 0).trans f3
  have a5 := (cmp_lt x 4607182418800017408).trans f5
  have a6 := (cmp_eq x 4607182418800017408).trans f6
  have a7 := (cmp_gt x 9218868437227405311).trans f7
  have hz : p3 = true → floatBits .quo .f64 4607182418800017408 x = some (word p4 inf) := fun h => by
    rw [h] at f3
    have hn : isN x = false := by
      rcases hn : isN x with _ | _
      · rfl
      · unfold feq at f3; rw [hn] at f3; cases f3
    rw [← f4]
    exact inv_zero (by rw [feq_zero hn] at f3; simpa using f3)
  have w1 : (FloatKind.f64.format.order (word true inf) 0 == some .lt) = true := by decide
  have w2 : (FloatKind.f64.format.order (word false inf) 0 == some .lt) = false := by decide
  rcases hcase with ⟨rfl, rfl, rfl, rfl, rfl, rfl, hg⟩ | ⟨rfl, rfl, rfl, rfl, hg⟩ | ⟨rfl, rfl, rfl, rfl, hg⟩ | ⟨rfl, rfl, rfl, rfl, hg⟩ | ⟨rfl, rfl, rfl, rfl, rfl, hg⟩ | ⟨rfl, rfl, rfl, rfl, rfl, rfl, hg⟩ | ⟨rfl, rfl, rfl, rfl, rfl, rfl, rfl, hg⟩ | ⟨rfl, rfl, rfl, rfl, rfl, rfl, rfl, hg⟩
  all_goals (
    rw [hg]
    clear hg f1 f2 f3 f4 f5 f6 f7)
  all_goals try (
    have hq := hz rfl
    have e1 : ∀ W : World, (binOp .quo 28 (.float .f64 4607182418800017408) (.float .f64 x)).run Try.prog W = .ok (.float .f64 _) W := fun W => run_float_arith W .quo 28 .f64 _ _ _ hq
    clear hq)
  all_goals (
    clear hz
    go_enter Try.func19, Try.ntmps19
    go_wp2_with fail
    go_ret
    exact ⟨rfl, rfl⟩)
end Go.Proofs.Ytpjefioopbnolaa
