/- GaugeGrades returns true at every input, and its arguments read as they did: no condition. -/
import Derived.Test.YtpjefioopbnolaaRows
import Derived.WalkKit
import Derived.ProofKit
import Derived.OpenShut
import Derived.ShutString
import Derived.ChangeOld
import Derived.Below
import Derived.WalkSpells
import Derived.WalkLawsBesides
import Derived.Handy
import Derived.Test.YtpjefioopbnolaaMem
import Derived.Test.YtpjefioopbnolaaFl
import Derived.Test.YtpjefioopbnolaaFlRun
import Derived.Test.YtpjefioopbnolaaApp
import Derived.Test.YtpjefioopbnolaaGauV
import Derived.Test.YtpjefioopbnolaaMaxG
import Derived.Test.YtpjefioopbnolaaBits2
import Derived.Test.YtpjefioopbnolaaInf
import Derived.Test.YtpjefioopbnolaaGauS
import Derived.Test.YtpjefioopbnolaaGrade
import Derived.Test.YtpjefioopbnolaaMost
import Derived.Test.YtpjefioopbnolaaFair
import Derived.Test.YtpjefioopbnolaaAw30
namespace Go.Proofs.Ytpjefioopbnolaa.gaugeGrades
open Go.ChangeShapes Go.WideShapes Go.ChangeAt Go.RowKit
open Go.ChangeMaps (open_string shut_string)
set_option linter.unusedVariables false

open Fl
theorem grade_bd (x : Nat) : 0 ≤ gradeF x ∧ gradeF x ≤ 6 ∧ ((gradeF x == 0) = isN x) := by
  unfold gradeF
  cases isN x <;> simp
  split
  · exact ⟨by omega, by omega, by omega⟩
  · split
    · exact ⟨by omega, by omega, by omega⟩
    · split
      · exact ⟨by omega, by omega, by omega⟩
      · split
        · exact ⟨by omega, by omega, by omega⟩
        · split <;> exact ⟨by omega, by omega, by omega⟩
theorem grade_mono {x y : Nat} (h : flt x y = true) : gradeF x ≤ gradeF y := by
  unfold flt at h
  rw [Bool.and_eq_true, Bool.and_eq_true, decide_eq_true_eq] at h
  obtain ⟨⟨hx, hy⟩, hk⟩ := h
  have nx : isN x = false := by simpa using hx
  have ny : isN y = false := by simpa using hy
  have hi : inf = 9218868437227405312 := rfl
  have ry : rg y ≤ inf := by unfold isN at ny; simpa using ny
  unfold gradeF
  rw [nx, ny]
  unfold Fl.key at hk
  cases hs : sg x <;> cases ht : sg y <;> rw [hs, ht] at hk <;> simp only [Bool.false_eq_true, if_true, if_false] at hk ⊢
  · split <;> split <;> (try split) <;> (try split) <;> (try split) <;> (try split) <;> (try split) <;> (try split) <;> omega
  · omega
  · split <;> (try split) <;> (try split) <;> (try split) <;> omega
  · omega
theorem grade_same {x y : Nat} (hx : x < 18446744073709551616) (hy : y < 18446744073709551616) (h : feq x y = true) (h0 : feq x 0 = false) : gradeF x = gradeF y := by
  unfold feq at h
  rw [Bool.and_eq_true, Bool.and_eq_true, decide_eq_true_eq] at h
  obtain ⟨⟨nx, ny⟩, hk⟩ := h
  have nx' : isN x = false := by simpa using nx
  have : Fl.key x ≠ 0 := by
    intro e
    unfold feq at h0
    rw [nx', key0, e] at h0
    simp at h0
    revert h0; decide
  rw [key_word hx hy hk this]
theorem grade_neg {x : Nat} (h : isN x = false) (h1 : gradeF x ≠ 1) : gradeF (word (!sg x) (rg x)) = 1 := by
  have hr : rg x ≤ inf := by unfold isN at h; simpa using h
  have hs : sg x = false := by
    rcases hs : sg x with _ | _
    · rfl
    · exfalso; apply h1; unfold gradeF; rw [h, hs]; rfl
  rw [hs]
  show gradeF (word true (rg x)) = 1
  unfold gradeF
  have e1 : isN (word true (rg x)) = false := by unfold isN; rw [rg_word hr]; simp; omega
  have e2 : sg (word true (rg x)) = true := sg_word hr
  rw [e1, e2]; rfl
theorem gi : gradeF (word (decide ((1 : Int) < 0)) inf) = 6 := by decide
theorem gj : gradeF (word (decide ((-1 : Int) < 0)) inf) = 1 := by decide
theorem gk : gradeF 9218868437227405311 = 5 := by decide
theorem gl : gradeF 1 = 3 := by decide
theorem gm : gradeF 4607182418800017408 = 4 := by decide
theorem lt1 : word (decide ((1 : Int) < 0)) inf < 18446744073709551616 := by decide
theorem lt2 : word (decide ((-1 : Int) < 0)) inf < 18446744073709551616 := by decide
set_option maxRecDepth 100000 in
set_option maxHeartbeats 4000000 in
theorem walk (a0 a1 : Int) (w : World) (w0 : (Lit.int .u64 a0).wf = true) (w1 : (Lit.int .u64 a1).wf = true) :
    Calls Try.prog 6 #[.int .u64 a0, .int .u64 a1] w fun e w' => e = .returned (.bool true) ∧ Below w.heap.size w w' := by
  have h0 := bounds_u64 w0
  have h1 := bounds_u64 w1
  obtain ⟨x, hx⟩ : ∃ x, a0.toNat = x := ⟨_, rfl⟩
  obtain ⟨y, hy⟩ : ∃ x, a1.toNat = x := ⟨_, rfl⟩
  have hxl : x < 18446744073709551616 := by omega
  have hyl : y < 18446744073709551616 := by omega
  have HX := Lib.hid hx
  have HY := Lib.hid hy
  clear w0 w1 h0 h1 hx hy
  obtain ⟨g1, g2, g3⟩ := grade_bd x
  have g4 := grade_bd y
  have hnl : word (!sg x) (rg x) < 18446744073709551616 ∨ isN x = true := by
    rcases hn : isN x with _ | _
    · left
      have hr : rg x ≤ inf := by unfold isN at hn; simpa using hn
      have hi : inf = 9218868437227405312 := rfl
      unfold word; split <;> omega
    · right; rfl
  have e2 : ∀ W : World, (Op.unary .neg (.float .f64 x)).run Try.prog W = .ok (.float .f64 (word (!sg x) (rg x))) W := fun W => run_flip (P := Try.prog) W x hxl
  have hneg : isN x = false → gradeF x ≠ 1 → gradeF (word (!sg x) (rg x)) = 1 := fun a b => grade_neg a b
  have hmono : flt x y = true → decide (gradeF y < gradeF x) = false := fun h => decide_eq_false (by have := grade_mono h; omega)
  have hsame : feq x y = true → feq x 0 = false → gradeF x = gradeF y := fun a b => grade_same hxl hyl a b
  have a1 := (cmp_ne x x).trans (by rw [feq_self, Bool.not_not])
  have a2 := cmp_lt x y
  have a3 := cmp_eq x y
  have a4 := cmp_ne x 0
  have dis : flt x y = true → feq x y = false := fun h => by
    unfold flt at h; unfold feq
    rw [Bool.and_eq_true, decide_eq_true_eq] at h
    rw [h.1, Bool.true_and]; exact decide_eq_false (by omega)
  have nn : isN x = true → flt x y = false ∧ feq x y = false := fun h => by unfold flt feq; rw [h]; exact ⟨rfl, rfl⟩
  have HG := Lib.hid (grade_any x hxl)
  have HH := Lib.hid (grade_any y hyl)
  have HNg : Hid (isN x = false → ∀ W, Calls Try.prog 17 #[.float .f64 (word (!sg x) (rg x))] W fun e w' => e = .returned (.int .i64 (gradeF (word (!sg x) (rg x)))) ∧ W = w') := fun h W => grade_any _ (by rcases hnl with a | a; exact a; rw [h] at a; cases a) W
  generalize word (!sg x) (rg x) = nx at *
  have hn1 : isN x = false → gradeF x ≠ 1 → gradeF nx = 1 := hneg
  generalize gradeF nx = gn at *
  generalize gradeF x = g at *
  generalize gradeF y = h at *
  have q1 : decide (g < 0) = false := decide_eq_false (by omega)
  have q2 : decide (6 < g) = false := decide_eq_false (by omega)
  have hcase : (isN x = true ∧ flt x y = false ∧ feq x y = false) ∨ (isN x = false ∧ ((flt x y = true ∧ feq x y = false) ∨ (flt x y = false ∧ feq x y = true ∧ feq x 0 = true) ∨ (flt x y = false ∧ feq x y = true ∧ feq x 0 = false) ∨ (flt x y = false ∧ feq x y = false)) ∧ (g = 1 ∨ g ≠ 1)) := by
    rcases hp : isN x with _ | _
    · right
      refine ⟨rfl, ?_, by omega⟩
      rcases hs : flt x y with _ | _ <;> rcases ht : feq x y with _ | _ <;> rcases hu : feq x 0 with _ | _ <;> simp
      · have := dis hs; rw [ht] at this; cases this
      · have := dis hs; rw [ht] at this; cases this
    · left; exact ⟨rfl, (nn hp).1, (nn hp).2⟩
  rcases hcase with ⟨hp, hs, ht⟩ | ⟨hp, hst, hq⟩
  · rw [hp] at a1 g3
    rw [hs] at a2
    rw [ht] at a3
    clear hp hs ht hneg hmono hsame dis nn hn1 hnl g4 HNg e2
    go_enter Try.func6, Try.ntmps6
    go_wp2_with fail
    refine (float_any _ _).mono ?_
    rw [HX.out]
    rintro e w9 ⟨rfl, rfl⟩
    go_wp2_with fail
    refine (float_any _ _).mono ?_
    rw [HY.out]
    rintro e w9 ⟨rfl, rfl⟩
    go_wp2_with fail
    refine (HG.out _).mono ?_
    rintro e w9 ⟨rfl, rfl⟩
    go_wp2_with fail
    refine (HH.out _).mono ?_
    rintro e w9 ⟨rfl, rfl⟩
    go_wp2_with fail
    refine (minf_any _ _).mono ?_
    rintro e w9 ⟨rfl, rfl⟩
    go_wp2_with fail
    refine (grade_any _ lt1 _).mono ?_
    rw [gi]
    rintro e w9 ⟨rfl, rfl⟩
    go_wp2_with fail
    refine (minf_any _ _).mono ?_
    rintro e w9 ⟨rfl, rfl⟩
    go_wp2_with fail
    refine (grade_any _ lt2 _).mono ?_
    rw [gj]
    rintro e w9 ⟨rfl, rfl⟩
    go_wp2_with fail
    refine (grade_any _ (by omega) _).mono ?_
    rw [gk]
    rintro e w9 ⟨rfl, rfl⟩
    go_wp2_with fail
    refine (grade_any _ (by omega) _).mono ?_
    rw [gl]
    rintro e w9 ⟨rfl, rfl⟩
    go_wp2_with fail
    refine (grade_any _ (by omega) _).mono ?_
    rw [gm]
    rintro e w9 ⟨rfl, rfl⟩
    go_wp2_with fail
    refine (awake30_any _).mono ?_
    rintro e w7 ⟨rfl, hg7⟩
    go_wp2_with fail
    go_ret
    exact ⟨rfl, below_only (Below.refl _ _) (Nat.le_refl _) hg7 (by simp)⟩
  · have HM0 := HNg.out hp
    rw [hp] at a1 g3
    have hq1 := hn1 hp
    rcases hst with ⟨hs, ht⟩ | ⟨hs, ht, hu⟩ | ⟨hs, ht, hu⟩ | ⟨hs, ht⟩ <;> rcases hq with hq | hq
    · have HM := Lib.hid HM0
      rw [hs] at a2
      rw [ht] at a3
      have m1 := hmono hs
      have m2 : g ≤ h := by have := of_decide_eq_false m1; omega
      subst hq
      clear hp hs ht hneg hmono hsame dis nn hn1 hnl g4 HNg HM0 hq1
      go_enter Try.func6, Try.ntmps6
      go_wp2_with fail
      refine (float_any _ _).mono ?_
      rw [HX.out]
      rintro e w9 ⟨rfl, rfl⟩
      go_wp2_with fail
      refine (float_any _ _).mono ?_
      rw [HY.out]
      rintro e w9 ⟨rfl, rfl⟩
      go_wp2_with fail
      refine (HG.out _).mono ?_
      rintro e w9 ⟨rfl, rfl⟩
      go_wp2_with fail
      refine (HH.out _).mono ?_
      rintro e w9 ⟨rfl, rfl⟩
      go_wp2_with fail
      refine (minf_any _ _).mono ?_
      rintro e w9 ⟨rfl, rfl⟩
      go_wp2_with fail
      refine (grade_any _ lt1 _).mono ?_
      rw [gi]
      rintro e w9 ⟨rfl, rfl⟩
      go_wp2_with fail
      refine (minf_any _ _).mono ?_
      rintro e w9 ⟨rfl, rfl⟩
      go_wp2_with fail
      refine (grade_any _ lt2 _).mono ?_
      rw [gj]
      rintro e w9 ⟨rfl, rfl⟩
      go_wp2_with fail
      refine (grade_any _ (by omega) _).mono ?_
      rw [gk]
      rintro e w9 ⟨rfl, rfl⟩
      go_wp2_with fail
      refine (grade_any _ (by omega) _).mono ?_
      rw [gl]
      rintro e w9 ⟨rfl, rfl⟩
      go_wp2_with fail
      refine (grade_any _ (by omega) _).mono ?_
      rw [gm]
      rintro e w9 ⟨rfl, rfl⟩
      go_wp2_with fail
      refine (awake30_any _).mono ?_
      rintro e w7 ⟨rfl, hg7⟩
      go_wp2_with fail
      go_ret
      exact ⟨rfl, below_only (Below.refl _ _) (Nat.le_refl _) hg7 (by simp)⟩
    · have HM := Lib.hid HM0
      rw [hs] at a2
      rw [ht] at a3
      have m1 := hmono hs
      have m2 : g ≤ h := by have := of_decide_eq_false m1; omega
      have q3 : (g == 1) = false := by rw [beq_eq_false_iff_ne]; exact hq
      have q4 := hq1 hq
      rw [q4] at HM
      clear hp hs ht hneg hmono hsame dis nn hn1 hnl g4 HNg HM0 hq1
      go_enter Try.func6, Try.ntmps6
      go_wp2_with fail
      refine (float_any _ _).mono ?_
      rw [HX.out]
      rintro e w9 ⟨rfl, rfl⟩
      go_wp2_with fail
      refine (float_any _ _).mono ?_
      rw [HY.out]
      rintro e w9 ⟨rfl, rfl⟩
      go_wp2_with fail
      refine (HG.out _).mono ?_
      rintro e w9 ⟨rfl, rfl⟩
      go_wp2_with fail
      refine (HH.out _).mono ?_
      rintro e w9 ⟨rfl, rfl⟩
      go_wp2_with fail
      refine (HM.out _).mono ?_
      rintro e w9 ⟨rfl, rfl⟩
      go_wp2_with fail
      refine (minf_any _ _).mono ?_
      rintro e w9 ⟨rfl, rfl⟩
      go_wp2_with fail
      refine (grade_any _ lt1 _).mono ?_
      rw [gi]
      rintro e w9 ⟨rfl, rfl⟩
      go_wp2_with fail
      refine (minf_any _ _).mono ?_
      rintro e w9 ⟨rfl, rfl⟩
      go_wp2_with fail
      refine (grade_any _ lt2 _).mono ?_
      rw [gj]
      rintro e w9 ⟨rfl, rfl⟩
      go_wp2_with fail
      refine (grade_any _ (by omega) _).mono ?_
      rw [gk]
      rintro e w9 ⟨rfl, rfl⟩
      go_wp2_with fail
      refine (grade_any _ (by omega) _).mono ?_
      rw [gl]
      rintro e w9 ⟨rfl, rfl⟩
      go_wp2_with fail
      refine (grade_any _ (by omega) _).mono ?_
      rw [gm]
      rintro e w9 ⟨rfl, rfl⟩
      go_wp2_with fail
      refine (awake30_any _).mono ?_
      rintro e w7 ⟨rfl, hg7⟩
      go_wp2_with fail
      go_ret
      exact ⟨rfl, below_only (Below.refl _ _) (Nat.le_refl _) hg7 (by simp)⟩
    · have HM := Lib.hid HM0
      rw [hs] at a2
      rw [ht] at a3
      rw [hu] at a4
      subst hq
      clear hu
      clear hp hs ht hneg hmono hsame dis nn hn1 hnl g4 HNg HM0 hq1
      go_enter Try.func6, Try.ntmps6
      go_wp2_with fail
      refine (float_any _ _).mono ?_
      rw [HX.out]
      rintro e w9 ⟨rfl, rfl⟩
      go_wp2_with fail
      refine (float_any _ _).mono ?_
      rw [HY.out]
      rintro e w9 ⟨rfl, rfl⟩
      go_wp2_with fail
      refine (HG.out _).mono ?_
      rintro e w9 ⟨rfl, rfl⟩
      go_wp2_with fail
      refine (HH.out _).mono ?_
      rintro e w9 ⟨rfl, rfl⟩
      go_wp2_with fail
      refine (minf_any _ _).mono ?_
      rintro e w9 ⟨rfl, rfl⟩
      go_wp2_with fail
      refine (grade_any _ lt1 _).mono ?_
      rw [gi]
      rintro e w9 ⟨rfl, rfl⟩
      go_wp2_with fail
      refine (minf_any _ _).mono ?_
      rintro e w9 ⟨rfl, rfl⟩
      go_wp2_with fail
      refine (grade_any _ lt2 _).mono ?_
      rw [gj]
      rintro e w9 ⟨rfl, rfl⟩
      go_wp2_with fail
      refine (grade_any _ (by omega) _).mono ?_
      rw [gk]
      rintro e w9 ⟨rfl, rfl⟩
      go_wp2_with fail
      refine (grade_any _ (by omega) _).mono ?_
      rw [gl]
      rintro e w9 ⟨rfl, rfl⟩
      go_wp2_with fail
      refine (grade_any _ (by omega) _).mono ?_
      rw [gm]
      rintro e w9 ⟨rfl, rfl⟩
      go_wp2_with fail
      refine (awake30_any _).mono ?_
      rintro e w7 ⟨rfl, hg7⟩
      go_wp2_with fail
      go_ret
      exact ⟨rfl, below_only (Below.refl _ _) (Nat.le_refl _) hg7 (by simp)⟩
    · have HM := Lib.hid HM0
      rw [hs] at a2
      rw [ht] at a3
      rw [hu] at a4
      have q3 : (g == 1) = false := by rw [beq_eq_false_iff_ne]; exact hq
      have q4 := hq1 hq
      rw [q4] at HM
      clear hu
      clear hp hs ht hneg hmono hsame dis nn hn1 hnl g4 HNg HM0 hq1
      go_enter Try.func6, Try.ntmps6
      go_wp2_with fail
      refine (float_any _ _).mono ?_
      rw [HX.out]
      rintro e w9 ⟨rfl, rfl⟩
      go_wp2_with fail
      refine (float_any _ _).mono ?_
      rw [HY.out]
      rintro e w9 ⟨rfl, rfl⟩
      go_wp2_with fail
      refine (HG.out _).mono ?_
      rintro e w9 ⟨rfl, rfl⟩
      go_wp2_with fail
      refine (HH.out _).mono ?_
      rintro e w9 ⟨rfl, rfl⟩
      go_wp2_with fail
      refine (HM.out _).mono ?_
      rintro e w9 ⟨rfl, rfl⟩
      go_wp2_with fail
      refine (minf_any _ _).mono ?_
      rintro e w9 ⟨rfl, rfl⟩
      go_wp2_with fail
      refine (grade_any _ lt1 _).mono ?_
      rw [gi]
      rintro e w9 ⟨rfl, rfl⟩
      go_wp2_with fail
      refine (minf_any _ _).mono ?_
      rintro e w9 ⟨rfl, rfl⟩
      go_wp2_with fail
      refine (grade_any _ lt2 _).mono ?_
      rw [gj]
      rintro e w9 ⟨rfl, rfl⟩
      go_wp2_with fail
      refine (grade_any _ (by omega) _).mono ?_
      rw [gk]
      rintro e w9 ⟨rfl, rfl⟩
      go_wp2_with fail
      refine (grade_any _ (by omega) _).mono ?_
      rw [gl]
      rintro e w9 ⟨rfl, rfl⟩
      go_wp2_with fail
      refine (grade_any _ (by omega) _).mono ?_
      rw [gm]
      rintro e w9 ⟨rfl, rfl⟩
      go_wp2_with fail
      refine (awake30_any _).mono ?_
      rintro e w7 ⟨rfl, hg7⟩
      go_wp2_with fail
      go_ret
      exact ⟨rfl, below_only (Below.refl _ _) (Nat.le_refl _) hg7 (by simp)⟩
    · have HM := Lib.hid HM0
      rw [hs] at a2
      rw [ht] at a3
      rw [hu] at a4
      have m1 := hsame ht hu
      subst m1
      subst hq
      clear hu
      clear hp hs ht hneg hmono hsame dis nn hn1 hnl g4 HNg HM0 hq1
      go_enter Try.func6, Try.ntmps6
      go_wp2_with fail
      refine (float_any _ _).mono ?_
      rw [HX.out]
      rintro e w9 ⟨rfl, rfl⟩
      go_wp2_with fail
      refine (float_any _ _).mono ?_
      rw [HY.out]
      rintro e w9 ⟨rfl, rfl⟩
      go_wp2_with fail
      refine (HG.out _).mono ?_
      rintro e w9 ⟨rfl, rfl⟩
      go_wp2_with fail
      refine (HH.out _).mono ?_
      rintro e w9 ⟨rfl, rfl⟩
      go_wp2_with fail
      refine (minf_any _ _).mono ?_
      rintro e w9 ⟨rfl, rfl⟩
      go_wp2_with fail
      refine (grade_any _ lt1 _).mono ?_
      rw [gi]
      rintro e w9 ⟨rfl, rfl⟩
      go_wp2_with fail
      refine (minf_any _ _).mono ?_
      rintro e w9 ⟨rfl, rfl⟩
      go_wp2_with fail
      refine (grade_any _ lt2 _).mono ?_
      rw [gj]
      rintro e w9 ⟨rfl, rfl⟩
      go_wp2_with fail
      refine (grade_any _ (by omega) _).mono ?_
      rw [gk]
      rintro e w9 ⟨rfl, rfl⟩
      go_wp2_with fail
      refine (grade_any _ (by omega) _).mono ?_
      rw [gl]
      rintro e w9 ⟨rfl, rfl⟩
      go_wp2_with fail
      refine (grade_any _ (by omega) _).mono ?_
      rw [gm]
      rintro e w9 ⟨rfl, rfl⟩
      go_wp2_with fail
      refine (awake30_any _).mono ?_
      rintro e w7 ⟨rfl, hg7⟩
      go_wp2_with fail
      go_ret
      exact ⟨rfl, below_only (Below.refl _ _) (Nat.le_refl _) hg7 (by simp)⟩
    · have HM := Lib.hid HM0
      rw [hs] at a2
      rw [ht] at a3
      rw [hu] at a4
      have m1 := hsame ht hu
      subst m1
      have q3 : (g == 1) = false := by rw [beq_eq_false_iff_ne]; exact hq
      have q4 := hq1 hq
      rw [q4] at HM
      clear hu
      clear hp hs ht hneg hmono hsame dis nn hn1 hnl g4 HNg HM0 hq1
      go_enter Try.func6, Try.ntmps6
      go_wp2_with fail
      refine (float_any _ _).mono ?_
      rw [HX.out]
      rintro e w9 ⟨rfl, rfl⟩
      go_wp2_with fail
      refine (float_any _ _).mono ?_
      rw [HY.out]
      rintro e w9 ⟨rfl, rfl⟩
      go_wp2_with fail
      refine (HG.out _).mono ?_
      rintro e w9 ⟨rfl, rfl⟩
      go_wp2_with fail
      refine (HH.out _).mono ?_
      rintro e w9 ⟨rfl, rfl⟩
      go_wp2_with fail
      refine (HM.out _).mono ?_
      rintro e w9 ⟨rfl, rfl⟩
      go_wp2_with fail
      refine (minf_any _ _).mono ?_
      rintro e w9 ⟨rfl, rfl⟩
      go_wp2_with fail
      refine (grade_any _ lt1 _).mono ?_
      rw [gi]
      rintro e w9 ⟨rfl, rfl⟩
      go_wp2_with fail
      refine (minf_any _ _).mono ?_
      rintro e w9 ⟨rfl, rfl⟩
      go_wp2_with fail
      refine (grade_any _ lt2 _).mono ?_
      rw [gj]
      rintro e w9 ⟨rfl, rfl⟩
      go_wp2_with fail
      refine (grade_any _ (by omega) _).mono ?_
      rw [gk]
      rintro e w9 ⟨rfl, rfl⟩
      go_wp2_with fail
      refine (grade_any _ (by omega) _).mono ?_
      rw [gl]
      rintro e w9 ⟨rfl, rfl⟩
      go_wp2_with fail
      refine (grade_any _ (by omega) _).mono ?_
      rw [gm]
      rintro e w9 ⟨rfl, rfl⟩
      go_wp2_with fail
      refine (awake30_any _).mono ?_
      rintro e w7 ⟨rfl, hg7⟩
      go_wp2_with fail
      go_ret
      exact ⟨rfl, below_only (Below.refl _ _) (Nat.le_refl _) hg7 (by simp)⟩
    · have HM := Lib.hid HM0
      rw [hs] at a2
      rw [ht] at a3
      subst hq
      clear hp hs ht hneg hmono hsame dis nn hn1 hnl g4 HNg HM0 hq1
      go_enter Try.func6, Try.ntmps6
      go_wp2_with fail
      refine (float_any _ _).mono ?_
      rw [HX.out]
      rintro e w9 ⟨rfl, rfl⟩
      go_wp2_with fail
      refine (float_any _ _).mono ?_
      rw [HY.out]
      rintro e w9 ⟨rfl, rfl⟩
      go_wp2_with fail
      refine (HG.out _).mono ?_
      rintro e w9 ⟨rfl, rfl⟩
      go_wp2_with fail
      refine (HH.out _).mono ?_
      rintro e w9 ⟨rfl, rfl⟩
      go_wp2_with fail
      refine (minf_any _ _).mono ?_
      rintro e w9 ⟨rfl, rfl⟩
      go_wp2_with fail
      refine (grade_any _ lt1 _).mono ?_
      rw [gi]
      rintro e w9 ⟨rfl, rfl⟩
      go_wp2_with fail
      refine (minf_any _ _).mono ?_
      rintro e w9 ⟨rfl, rfl⟩
      go_wp2_with fail
      refine (grade_any _ lt2 _).mono ?_
      rw [gj]
      rintro e w9 ⟨rfl, rfl⟩
      go_wp2_with fail
      refine (grade_any _ (by omega) _).mono ?_
      rw [gk]
      rintro e w9 ⟨rfl, rfl⟩
      go_wp2_with fail
      refine (grade_any _ (by omega) _).mono ?_
      rw [gl]
      rintro e w9 ⟨rfl, rfl⟩
      go_wp2_with fail
      refine (grade_any _ (by omega) _).mono ?_
      rw [gm]
      rintro e w9 ⟨rfl, rfl⟩
      go_wp2_with fail
      refine (awake30_any _).mono ?_
      rintro e w7 ⟨rfl, hg7⟩
      go_wp2_with fail
      go_ret
      exact ⟨rfl, below_only (Below.refl _ _) (Nat.le_refl _) hg7 (by simp)⟩
    · have HM := Lib.hid HM0
      rw [hs] at a2
      rw [ht] at a3
      have q3 : (g == 1) = false := by rw [beq_eq_false_iff_ne]; exact hq
      have q4 := hq1 hq
      rw [q4] at HM
      clear hp hs ht hneg hmono hsame dis nn hn1 hnl g4 HNg HM0 hq1
      go_enter Try.func6, Try.ntmps6
      go_wp2_with fail
      refine (float_any _ _).mono ?_
      rw [HX.out]
      rintro e w9 ⟨rfl, rfl⟩
      go_wp2_with fail
      refine (float_any _ _).mono ?_
      rw [HY.out]
      rintro e w9 ⟨rfl, rfl⟩
      go_wp2_with fail
      refine (HG.out _).mono ?_
      rintro e w9 ⟨rfl, rfl⟩
      go_wp2_with fail
      refine (HH.out _).mono ?_
      rintro e w9 ⟨rfl, rfl⟩
      go_wp2_with fail
      refine (HM.out _).mono ?_
      rintro e w9 ⟨rfl, rfl⟩
      go_wp2_with fail
      refine (minf_any _ _).mono ?_
      rintro e w9 ⟨rfl, rfl⟩
      go_wp2_with fail
      refine (grade_any _ lt1 _).mono ?_
      rw [gi]
      rintro e w9 ⟨rfl, rfl⟩
      go_wp2_with fail
      refine (minf_any _ _).mono ?_
      rintro e w9 ⟨rfl, rfl⟩
      go_wp2_with fail
      refine (grade_any _ lt2 _).mono ?_
      rw [gj]
      rintro e w9 ⟨rfl, rfl⟩
      go_wp2_with fail
      refine (grade_any _ (by omega) _).mono ?_
      rw [gk]
      rintro e w9 ⟨rfl, rfl⟩
      go_wp2_with fail
      refine (grade_any _ (by omega) _).mono ?_
      rw [gl]
      rintro e w9 ⟨rfl, rfl⟩
      go_wp2_with fail
      refine (grade_any _ (by omega) _).mono ?_
      rw [gm]
      rintro e w9 ⟨rfl, rfl⟩
      go_wp2_with fail
      refine (awake30_any _).mono ?_
      rintro e w7 ⟨rfl, hg7⟩
      go_wp2_with fail
      go_ret
      exact ⟨rfl, below_only (Below.refl _ _) (Nat.le_refl _) hg7 (by simp)⟩

theorem own : ownKnob Try.prog.godebug = none := by kernel_rfl
theorem laidOut : laidOutB Try.prog = true := by kernel_rfl

set_option maxRecDepth 100000 in
theorem lifted (os : Os) (started : os.Started) (H : Type) (enc : TypeId × Value → H) :
    ReturnsInHanded {} Try.checked os 6 .any (Rows.gaugeGradesSpec.pre6 enc Try.prog Try.f6 Rows.gaugeGradesRow.domain false) (Rows.gaugeGradesSpec.post enc Try.prog Try.f6 false true false false) := by
  refine returnsInHanded_of_change (C := Try.checked) own started (by kernel_rfl) Try.func6
    (ChangeSpec.witness6 (enc := enc) (C := Try.checked) false ⟨#[], #[.int .u64 0, .int .u64 0], []⟩ 8 (by kernel_rfl) (by kernel_rfl) (by kernel_rfl) (by kernel_rfl)) ?_
  intro W base args ds gs before hval0 hW hcnd _
  have hval : ∀ (j : Nat) t v, Try.f6.params[j]? = some t → args[j]? = some v → Value.okWide Try.prog W .any base t v := hval0
  have hW' := hW
  obtain ⟨p, q, hA0, hV, rfl, hfz, hnd⟩ := hW
  have hA : DataW.TrodAll enc Try.prog W 0 (fun _ => true) true Try.f6.params.toList args.toList ds p := hA0
  rw [Try.params6] at hA hval
  obtain ⟨v0, vs0, d0, ds0, p0, q0, hargs, rfl, rfl, h0, r0⟩ := trodAll_cons hA
  obtain ⟨v1, vs1, d1, ds1, p1, q1, rfl, rfl, rfl, h1, r1⟩ := trodAll_cons r0
  obtain ⟨rfl, rfl, rfl⟩ := trodAll_nil r1
  obtain rfl : args = #[v0, v1] := by cases args; simp_all
  obtain ⟨rfl, rfl⟩ := trodVars_none hV
  obtain ⟨a0, rfl, rfl, rfl, w0⟩ := open_int Try.underlying23 (hval 0 23 v0 rfl rfl) h0
  obtain ⟨a1, rfl, rfl, rfl, w1⟩ := open_int Try.underlying23 (hval 1 23 v1 rfl rfl) h1
  clear hA0 hval0
  refine (walk a0 a1 W w0 w1).mono fun e W' ⟨he, bel⟩ => ?_
  subst he
  exact ⟨_, rfl, _, _, _, [], _, [], hW', trodAll_mk1 (shut_bool Try.underlying4 _), (trodAll_cons_mk (shut_int Try.underlying23 w0) (trodAll_cons_mk (shut_int Try.underlying23 w1) trodAll_mk0)), rfl, bel.frame _, fun h => by cases h⟩

theorem over : Rows.gaugeGradesRow.holds Try.pinned (OpenSpec.ofChange Rows.gaugeGradesSpec) :=
  OpenClaim.holds_of_wide 6 Try.f6 rfl rfl rfl rfl rfl rfl rfl ⟨rfl, rfl, rfl, rfl, rfl⟩ rfl rfl rfl rfl rfl (by kernel_rfl) Try.func6 (by kernel_rfl)
    (of_decide_eq_true (by kernel_rfl)) (by unfold Func.isWrapper; first | (rw [if_pos (by decide +kernel)]; kernel_rfl) | (rw [if_neg (by decide +kernel)]; exact ⟨rfl, rfl⟩))
    (fun os started H enc _ => lifted os started H enc)

/-- The statement. -/
theorem proved : Rows.GaugeGradesSaid := over
#print axioms proved
end Go.Proofs.Ytpjefioopbnolaa.gaugeGrades
