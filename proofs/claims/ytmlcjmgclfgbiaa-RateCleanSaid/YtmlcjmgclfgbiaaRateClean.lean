/- RateClean returns true at every input, and its arguments read as they did: no condition. -/
import Derived.Test.YtmlcjmgclfgbiaaRows
import Derived.WalkKit
import Derived.ProofKit
import Derived.OpenShut
import Derived.ShutString
import Derived.ChangeOld
import Derived.Below
import Derived.WalkSpells
import Derived.WalkLawsBesides
import Derived.Handy
import Derived.Test.YtmlcjmgclfgbiaaMem
import Derived.Test.YtmlcjmgclfgbiaaFl
import Derived.Test.YtmlcjmgclfgbiaaFlRun
import Derived.Test.YtmlcjmgclfgbiaaClean
import Derived.Test.YtmlcjmgclfgbiaaMove
import Derived.Test.YtmlcjmgclfgbiaaOf
import Derived.Test.YtmlcjmgclfgbiaaBits
import Derived.Test.YtmlcjmgclfgbiaaFar
import Derived.Test.YtmlcjmgclfgbiaaRateW
import Derived.Test.YtmlcjmgclfgbiaaAw2
namespace Go.Proofs.Ytmlcjmgclfgbiaa.rateClean
open Go.ChangeShapes Go.WideShapes Go.ChangeAt Go.RowKit
open Go.ChangeMaps (open_string shut_string)
set_option linter.unusedVariables false

open Fl
theorem flt_nn {a b : Nat} (h1 : isN a = false) (h2 : isN b = false) : flt a b = decide (Fl.key a < Fl.key b) := by unfold flt; rw [h1, h2]; rfl
theorem feq_nn {a b : Nat} (h1 : isN a = false) (h2 : isN b = false) : feq a b = decide (Fl.key a = Fl.key b) := by unfold feq; rw [h1, h2]; rfl
theorem key_small {p : Nat} (h : p ≤ inf) : Fl.key p = p := by unfold Fl.key; rw [small_sg h, small_rg h]; rfl
theorem flt_n1 {a b : Nat} (h : isN a = true) : flt a b = false := by unfold flt; rw [h]; rfl
theorem flt_n2 {a b : Nat} (h : isN b = true) : flt a b = false := by unfold flt; rw [h]; simp
theorem feq_n1 {a b : Nat} (h : isN a = true) : feq a b = false := by unfold feq; rw [h]; rfl
theorem feq_n2 {a b : Nat} (h : isN b = true) : feq a b = false := by unfold feq; rw [h]; simp
theorem cases6 (x : Nat) (hx : x < 18446744073709551616) :
    ∃ p1 p2 p3 p4 p5 p6 q2 q3 q5 q6 q7, isN x = p1 ∧ flt x 0 = p2 ∧ feq x 0 = p3 ∧ flt 0 x = p4 ∧ flt x 4625196817309499392 = p5 ∧ feq x 4625196817309499392 = p6 ∧
      flt 0 (cl x) = q2 ∧ feq (cl x) 0 = q3 ∧ flt (cl x) 4625196817309499392 = q5 ∧ feq (cl x) 4625196817309499392 = q6 ∧ feq (cl x) x = q7 ∧
      ((p1, p2, p3, p4, p5, p6, q2, q3, q5, q6, q7) = (true, false, false, false, false, false, false, true, true, false, false) ∧ cl x = 0 ∨
       (p1, p2, p3, p4, p5, p6, q2, q3, q5, q6, q7) = (false, true, false, false, true, false, false, true, true, false, false) ∧ cl x = 0 ∨
       (p1, p2, p3, p4, p5, p6, q2, q3, q5, q6, q7) = (false, false, true, false, true, false, false, true, true, false, true) ∧ cl x = 0 ∨
       (p1, p2, p3, p4, p5, p6, q2, q3, q5, q6, q7) = (false, false, false, true, true, false, true, false, true, false, true) ∨
       (p1, p2, p3, p4, p5, p6, q2, q3, q5, q6, q7) = (false, false, false, true, false, true, true, false, false, true, true) ∨
       (p1, p2, p3, p4, p5, p6, q2, q3, q5, q6, q7) = (false, false, false, true, false, false, true, false, false, true, false)) := by
  refine ⟨_, _, _, _, _, _, _, _, _, _, _, rfl, rfl, rfl, rfl, rfl, rfl, rfl, rfl, rfl, rfl, rfl, ?_⟩
  have n0 : isN 0 = false := by decide
  have n16 : isN 4625196817309499392 = false := by decide
  have k16 : Fl.key 4625196817309499392 = 4625196817309499392 := by decide
  obtain ⟨s1, s2, s3, s4⟩ := cl_spec x hx
  have hi : inf = 9218868437227405312 := rfl
  have nc := small_isN (p := cl x) (by omega)
  have kc := key_small (p := cl x) (by omega)
  rcases hn : isN x with _ | _
  · rw [flt_nn hn n0, feq_nn hn n0, flt_nn n0 hn, flt_nn hn n16, feq_nn hn n16, flt_nn n0 nc, feq_nn nc n0, flt_nn nc n16, feq_nn nc n16, feq_nn nc hn, key0, k16, kc]
    by_cases h1 : Fl.key x < 0
    · have hc := s3.2 (.inr (by omega))
      right; left
      refine ⟨?_, hc⟩
      rw [hc]
      simp only [Prod.mk.injEq, decide_eq_false_iff_not, decide_eq_true_eq]; and_intros <;> first | omega | with_reducible rfl | with_reducible exact True.intro
    · by_cases h2 : Fl.key x = 0
      · have hc := s3.2 (.inr (by omega))
        right; right; left
        refine ⟨?_, hc⟩
        rw [hc, h2]
        simp only [Prod.mk.injEq, decide_eq_false_iff_not, decide_eq_true_eq]; and_intros <;> first | omega | with_reducible rfl | with_reducible exact True.intro
      · have h3 : 0 < Fl.key x := by omega
        have hc := s4 hn h3
        have hk := (key_pos h3).2
        right; right; right
        rcases Int.lt_trichotomy (Fl.key x) 4625196817309499392 with h | h | h
        · left
          simp only [Prod.mk.injEq, decide_eq_false_iff_not, decide_eq_true_eq]; and_intros <;> first | omega | with_reducible rfl | with_reducible exact True.intro
        · right; left
          simp only [Prod.mk.injEq, decide_eq_false_iff_not, decide_eq_true_eq]; and_intros <;> first | omega | with_reducible rfl | with_reducible exact True.intro
        · right; right
          simp only [Prod.mk.injEq, decide_eq_false_iff_not, decide_eq_true_eq]; and_intros <;> first | omega | with_reducible rfl | with_reducible exact True.intro
  · rw [flt_n1 hn, feq_n1 hn, flt_n2 hn, flt_n1 hn, feq_n1 hn, feq_n2 hn, flt_nn n0 nc, feq_nn nc n0, flt_nn nc n16, feq_nn nc n16, key0, k16, kc]
    have hc := s3.2 (.inl hn)
    left
    refine ⟨?_, hc⟩
    rw [hc]
    simp only [Prod.mk.injEq, decide_eq_false_iff_not, decide_eq_true_eq]; and_intros <;> first | omega | with_reducible rfl | with_reducible exact True.intro
theorem ex_i : cl (word (decide ((1 : Int) < 0)) inf) = 4625196817309499392 := by decide
theorem ex_n : cl 9221120237041090561 = 0 := by decide
theorem ex_z : cl 9223372036854775808 = 0 := by decide
theorem ex_s : word (decide ((1 : Int) < 0)) inf < 18446744073709551616 := by decide

set_option maxRecDepth 100000 in
set_option maxHeartbeats 4000000 in
theorem walk (a0 a1 : Int) (w : World) (w0 : (Lit.int .u64 a0).wf = true) (w1 : (Lit.int .i64 a1).wf = true) :
    Calls Try.prog 6 #[.int .u64 a0, .int .i64 a1] w fun e w' => e = .returned (.bool true) ∧ Below w.heap.size w w' := by
  have h0 := bounds_u64 w0
  obtain ⟨x, hx⟩ : ∃ b, a0.toNat = b := ⟨_, rfl⟩
  have hx1 : x < 18446744073709551616 := by omega
  clear w0 w1 h0
  obtain ⟨p1, p2, p3, p4, p5, p6, q2, q3, q5, q6, q7, f1, f2, f3, f4, f5, f6, g2, g3, g5, g6, g7, hcase⟩ := cases6 x hx1
  have m0 : cl x = 0 → ∀ k, (mv x k : Int) = 0 := fun h k => by rw [mv_zero h]; rfl
  have mi : ∀ k, mv (word (decide ((1 : Int) < 0)) inf) k = mv 4625196817309499392 k := fun k => by unfold mv pr; rw [ex_i, cl_idem (x := 4625196817309499392) (Nat.le_refl _)]
  have mn : ∀ k, (mv 9221120237041090561 k : Int) = 0 := fun k => by rw [mv_zero ex_n]; rfl
  have mz : ∀ k, (mv 9223372036854775808 k : Int) = 0 := fun k => by rw [mv_zero ex_z]; rfl
  obtain ⟨s1, s2, s3, s4⟩ := cl_spec x hx1
  have hi : inf = 9218868437227405312 := rfl
  have id := cl_idem s1
  have sc := small_sg (p := cl x) (by omega)
  have nc := small_isN (p := cl x) (by omega)
  have hcl : cl x < 18446744073709551616 := by omega
  have o1 := (cmp_ne x x).trans (by rw [feq_self, Bool.not_not, f1])
  have o2 := (cmp_lt x 0).trans f2
  have o3 := (cmp_eq x 0).trans f3
  have o4 := (cmp_gt x 0).trans f4
  have o5 := (cmp_lt x 4625196817309499392).trans f5
  have o6 := (cmp_eq x 4625196817309499392).trans f6
  have r2 := (cmp_gt (cl x) 0).trans g2
  have r3 := (cmp_eq (cl x) 0).trans g3
  have r3' : (FloatKind.f64.format.order (cl x) 0 != some .eq) = !q3 := by rw [cmp_ne, g3]
  have r5 := (cmp_lt (cl x) 4625196817309499392).trans g5
  have r6 := (cmp_eq (cl x) 4625196817309499392).trans g6
  have r7 := (cmp_eq (cl x) x).trans g7
  have r8 := (cmp_ne (cl x) (cl x)).trans (by rw [feq_self, Bool.not_not, nc])
  clear f1 f2 f3 f4 f5 f6 g2 g3 g5 g6 g7 s2 s3 s4 nc hi
  have fin : ∀ k, cl x = 0 ∨ q3 = false → (cl x = 0 → (mv x k : Int) = 0) := fun k _ h => m0 h k
  rcases hcase with ⟨hc, hz⟩ | ⟨hc, hz⟩ | ⟨hc, hz⟩ | hc | hc | hc
  all_goals (
    simp only [Prod.mk.injEq] at hc
    obtain ⟨rfl, rfl, rfl, rfl, rfl, rfl, rfl, rfl, rfl, rfl, rfl⟩ := hc
    simp only [Bool.not_false, Bool.not_true] at r3')
  all_goals try replace m0 := m0 hz
  all_goals try clear hz
  all_goals (
    clear fin
    go_enter Try.func6, Try.ntmps6
    go_wp2_with fail
    refine (float_any _ _).mono ?_
    rintro e w1 ⟨rfl, rfl⟩
    rw [hx]
    go_wp2_with fail
    refine (clean_any _ _).mono ?_
    rintro e w1 ⟨rfl, rfl⟩
    go_wp2_with fail
    refine (signbit_any _ hcl _).mono ?_
    rw [sc]
    rintro e w1 ⟨rfl, rfl⟩
    go_wp2_with fail
    refine (clean_any _ _).mono ?_
    rw [id]
    rintro e w1 ⟨rfl, rfl⟩
    go_wp2_with fail)
  all_goals try (
    refine (move_any _ hx1 _ _).mono ?_
    rw [m0]
    rintro e w1 ⟨rfl, rfl⟩
    go_wp2_with fail)
  all_goals (
    refine (minf_any _ _).mono ?_
    rintro e w1 ⟨rfl, rfl⟩
    go_wp2_with fail
    refine (move_any _ ex_s _ _).mono ?_
    rw [mi]
    rintro e w1 ⟨rfl, rfl⟩
    go_wp2_with fail
    refine (move_any _ (by omega) _ _).mono ?_
    rintro e w1 ⟨rfl, rfl⟩
    go_wp2_with fail
    refine (mnan_any _).mono ?_
    rintro e w1 ⟨rfl, rfl⟩
    go_wp2_with fail
    refine (move_any _ (by omega) _ _).mono ?_
    rw [mn]
    rintro e w1 ⟨rfl, rfl⟩
    go_wp2_with fail
    refine (copysign_c _).mono ?_
    rintro e w1 ⟨rfl, rfl⟩
    go_wp2_with fail
    refine (move_any _ (by omega) _ _).mono ?_
    rw [mz]
    rintro e w1 ⟨rfl, rfl⟩
    go_wp2_with fail
    refine (awake2_any _).mono ?_
    rintro e w1 ⟨rfl, hg⟩
    go_wp2_with fail
    go_ret
    exact ⟨rfl, below_only (Below.refl _ _) (Nat.le_refl _) hg (by simp)⟩)

theorem own : ownKnob Try.prog.godebug = none := by kernel_rfl
theorem laidOut : laidOutB Try.prog = true := by kernel_rfl

set_option maxRecDepth 100000 in
theorem lifted (os : Os) (started : os.Started) (H : Type) (enc : TypeId × Value → H) :
    ReturnsInHanded {} Try.checked os 6 .any (Rows.rateCleanSpec.pre6 enc Try.prog Try.f6 Rows.rateCleanRow.domain false) (Rows.rateCleanSpec.post enc Try.prog Try.f6 false true false false) := by
  refine returnsInHanded_of_change (C := Try.checked) own started (by kernel_rfl) Try.func6
    (ChangeSpec.witness6 (enc := enc) (C := Try.checked) false ⟨#[], #[.int .u64 0, .int .i64 0], []⟩ 8 (by kernel_rfl) (by kernel_rfl) (by kernel_rfl) (by kernel_rfl)) ?_
  intro W base args ds gs before hval0 hW hcnd _
  have hval : ∀ (j : Nat) t v, Try.f6.params[j]? = some t → args[j]? = some v → Value.okWide Try.prog W .any base t v := hval0
  have hW' := hW
  obtain ⟨p, q, hA0, hV, rfl, hfz, hnd⟩ := hW
  have hA : DataW.TrodAll enc Try.prog W 0 (fun _ => true) true Try.f6.params.toList args.toList ds p := hA0
  rw [Try.params6] at hA hval
  obtain ⟨v0, vs0, d0, ds0, p0, q0, hargs, rfl, rfl, h0, r0⟩ := trodAll_cons hA
  obtain ⟨v1, vs1, d1, ds1, p1, q1, rfl, rfl, rfl, h1, r1⟩ := trodAll_cons r0
  obtain ⟨rfl, rfl, rfl⟩ := trodAll_nil r1
  obtain rfl : args = #[v0, v1] := by cases args; simp_all
  obtain ⟨rfl, rfl⟩ := trodVars_none hV
  obtain ⟨a0, rfl, rfl, rfl, w0⟩ := open_int Try.underlying22 (hval 0 22 v0 rfl rfl) h0
  obtain ⟨a1, rfl, rfl, rfl, w1⟩ := open_int Try.underlying3 (hval 1 3 v1 rfl rfl) h1
  clear hA0 hval0
  refine (walk a0 a1 W w0 w1).mono fun e W' ⟨he, bel⟩ => ?_
  subst he
  exact ⟨_, rfl, _, _, _, [], _, [], hW', trodAll_mk1 (shut_bool Try.underlying4 _), (trodAll_cons_mk (shut_int Try.underlying22 w0) (trodAll_cons_mk (shut_int Try.underlying3 w1) trodAll_mk0)), rfl, bel.frame _, fun h => by cases h⟩

theorem over : Rows.rateCleanRow.holds Try.pinned (OpenSpec.ofChange Rows.rateCleanSpec) :=
  OpenClaim.holds_of_wide 6 Try.f6 rfl rfl rfl rfl rfl rfl rfl ⟨rfl, rfl, rfl, rfl, rfl⟩ rfl rfl rfl rfl rfl (by kernel_rfl) Try.func6 (by kernel_rfl)
    (of_decide_eq_true (by kernel_rfl)) (by unfold Func.isWrapper; first | (rw [if_pos (by decide +kernel)]; kernel_rfl) | (rw [if_neg (by decide +kernel)]; exact ⟨rfl, rfl⟩))
    (fun os started H enc _ => lifted os started H enc)

/-- The statement. -/
theorem proved : Rows.RateCleanSaid := over
#print axioms proved
end Go.Proofs.Ytmlcjmgclfgbiaa.rateClean
