/- RateGrows returns true at every input, and its arguments read as they did: no condition. -/
import Derived.Test.YtmlcjmgclfgbiaaRows
import Derived.WalkKit
import Derived.ProofKit
import Derived.OpenShut
import Derived.ShutString
import Derived.ChangeOld
import Derived.Below
import Derived.WalkSpells
import Derived.WalkLawsBesides
import Derived.Handy
import Derived.Test.YtmlcjmgclfgbiaaMem
import Derived.Test.YtmlcjmgclfgbiaaFl
import Derived.Test.YtmlcjmgclfgbiaaFlRun
import Derived.Test.YtmlcjmgclfgbiaaClean
import Derived.Test.YtmlcjmgclfgbiaaMove
import Derived.Test.YtmlcjmgclfgbiaaOf
import Derived.Test.YtmlcjmgclfgbiaaBits
import Derived.Test.YtmlcjmgclfgbiaaFar
import Derived.Test.YtmlcjmgclfgbiaaRateW
import Derived.Test.YtmlcjmgclfgbiaaAw2
namespace Go.Proofs.Ytmlcjmgclfgbiaa.rateGrows
open Go.ChangeShapes Go.WideShapes Go.ChangeAt Go.RowKit
open Go.ChangeMaps (open_string shut_string)
set_option linter.unusedVariables false

open Fl

set_option maxRecDepth 100000 in
set_option maxHeartbeats 1000000 in
theorem walk (a0 a1 a2 a3 : Int) (w : World) (w0 : (Lit.int .u64 a0).wf = true) (w1 : (Lit.int .u64 a1).wf = true) (w2 : (Lit.int .u16 a2).wf = true) (w3 : (Lit.int .u16 a3).wf = true) :
    Calls Try.prog 5 #[.int .u64 a0, .int .u64 a1, .int .u16 a2, .int .u16 a3] w fun e w' => e = .returned (.bool true) ∧ Below w.heap.size w w' := by
  have h0 := bounds_u64 w0
  have h1 := bounds_u64 w1
  have h2 := bounds_u16 w2
  have h3 := bounds_u16 w3
  obtain ⟨a, ha⟩ : ∃ b, a0.toNat = b := ⟨_, rfl⟩
  obtain ⟨b, hb⟩ : ∃ b, a1.toNat = b := ⟨_, rfl⟩
  have ha1 : a < 18446744073709551616 := by omega
  have hb1 : b < 18446744073709551616 := by omega
  have ca := (cl_spec a ha1).1
  have cb := (cl_spec b hb1).1
  have hi : inf = 9218868437227405312 := rfl
  have e1 : ∀ (ts : Array TypeId) (t : TypeId) (W : World), (Builtin.min_ ts t #[.float .f64 (cl a), .float .f64 (cl b)]).run Try.prog W = .ok (.float .f64 (min (cl a) (cl b))) W := fun ts t W => run_min_small ts t (by omega) (by omega) W
  have e2 : ∀ (ts : Array TypeId) (t : TypeId) (W : World), (Builtin.max_ ts t #[.float .f64 (cl a), .float .f64 (cl b)]).run Try.prog W = .ok (.float .f64 (max (cl a) (cl b))) W := fun ts t W => run_max_small ts t (by omega) (by omega) W
  have hk : 0 ≤ a2 % 1001 ∧ a2 % 1001 ≤ 1000 := by omega
  have hl : 0 ≤ a3 % 1001 ∧ a3 % 1001 ≤ 1000 := by omega
  obtain ⟨m, hm⟩ : ∃ m, (if a3 % 1001 < a2 % 1001 then a3 % 1001 else a2 % 1001) = m := ⟨_, rfl⟩
  obtain ⟨n, hn⟩ : ∃ m, (if a3 % 1001 > a2 % 1001 then a3 % 1001 else a2 % 1001) = m := ⟨_, rfl⟩
  have d1 : (mv (min (cl a) (cl b)) (clampN m) : Int) ≤ mv (max (cl a) (cl b)) (clampN n) := by
    have := mv_mono (x := min (cl a) (cl b)) (y := max (cl a) (cl b)) (k := clampN m) (l := clampN n) (by rw [cl_idem (x := min (cl a) (cl b)) (by omega), cl_idem (x := max (cl a) (cl b)) (by omega)]; omega) (by omega) (by unfold clampN; omega) (clampN_le _)
    omega
  have d2 : (mv (max (cl a) (cl b)) (clampN n) : Int) ≤ 16000 := by
    have := mv_le (x := max (cl a) (cl b)) (by omega) (clampN_le n)
    omega
  have d0 : (0 : Int) ≤ (mv (min (cl a) (cl b)) (clampN m) : Int) := Int.natCast_nonneg _
  have c1 : (mv 4607182418800017408 (clampN (a2 % 1001)) : Int) = a2 % 1001 := by
    rw [mv_one (cl_idem (by omega)) (clampN_le _)]; unfold clampN; omega
  have c2 : (mv 0 (clampN (a2 % 1001)) : Int) = 0 := by rw [mv_zero (cl_idem (by omega))]; rfl
  have c3 := mv_cl a (clampN (a2 % 1001)) ha1
  have hx1 : min (cl a) (cl b) < 18446744073709551616 := by omega
  have hx2 : max (cl a) (cl b) < 18446744073709551616 := by omega
  have hx3 : cl a < 18446744073709551616 := by omega
  clear w0 w1 w2 w3 h0 h1
  generalize min (cl a) (cl b) = p at *
  generalize max (cl a) (cl b) = q at *
  go_enter Try.func5, Try.ntmps5
  go_wp2_with fail
  refine (float_any _ _).mono ?_
  rintro e w1 ⟨rfl, rfl⟩
  rw [ha]
  go_wp2_with fail
  refine (clean_any _ _).mono ?_
  rintro e w1 ⟨rfl, rfl⟩
  go_wp2_with fail
  refine (float_any _ _).mono ?_
  rintro e w1 ⟨rfl, rfl⟩
  rw [hb]
  go_wp2_with fail
  refine (clean_any _ _).mono ?_
  rintro e w1 ⟨rfl, rfl⟩
  go_wp2_with fail
  refine (move_any _ hx1 _ _).mono ?_
  rintro e w1 ⟨rfl, rfl⟩
  go_wp2_with fail
  refine (move_any _ hx2 _ _).mono ?_
  rintro e w1 ⟨rfl, rfl⟩
  go_wp2_with fail
  refine (move_any _ (by omega) _ _).mono ?_
  rw [c1]
  rintro e w1 ⟨rfl, rfl⟩
  go_wp2_with fail
  refine (move_any _ (by omega) _ _).mono ?_
  rw [c2]
  rintro e w1 ⟨rfl, rfl⟩
  go_wp2_with fail
  refine (float_any _ _).mono ?_
  rintro e w1 ⟨rfl, rfl⟩
  rw [ha]
  go_wp2_with fail
  refine (move_any _ ha1 _ _).mono ?_
  rintro e w1 ⟨rfl, rfl⟩
  go_wp2_with fail
  refine (move_any _ hx3 _ _).mono ?_
  rw [c3]
  rintro e w1 ⟨rfl, rfl⟩
  go_wp2_with fail
  refine (awake2_any _).mono ?_
  rintro e w1 ⟨rfl, hg⟩
  go_wp2_with fail
  go_ret
  exact ⟨rfl, below_only (Below.refl _ _) (Nat.le_refl _) hg (by simp)⟩

theorem own : ownKnob Try.prog.godebug = none := by kernel_rfl
theorem laidOut : laidOutB Try.prog = true := by kernel_rfl

set_option maxRecDepth 100000 in
theorem lifted (os : Os) (started : os.Started) (H : Type) (enc : TypeId × Value → H) :
    ReturnsInHanded {} Try.checked os 5 .any (Rows.rateGrowsSpec.pre6 enc Try.prog Try.f5 Rows.rateGrowsRow.domain false) (Rows.rateGrowsSpec.post enc Try.prog Try.f5 false true false false) := by
  refine returnsInHanded_of_change (C := Try.checked) own started (by kernel_rfl) Try.func5
    (ChangeSpec.witness6 (enc := enc) (C := Try.checked) false ⟨#[], #[.int .u64 0, .int .u64 0, .int .u16 0, .int .u16 0], []⟩ 8 (by kernel_rfl) (by kernel_rfl) (by kernel_rfl) (by kernel_rfl)) ?_
  intro W base args ds gs before hval0 hW hcnd _
  have hval : ∀ (j : Nat) t v, Try.f5.params[j]? = some t → args[j]? = some v → Value.okWide Try.prog W .any base t v := hval0
  have hW' := hW
  obtain ⟨p, q, hA0, hV, rfl, hfz, hnd⟩ := hW
  have hA : DataW.TrodAll enc Try.prog W 0 (fun _ => true) true Try.f5.params.toList args.toList ds p := hA0
  rw [Try.params5] at hA hval
  obtain ⟨v0, vs0, d0, ds0, p0, q0, hargs, rfl, rfl, h0, r0⟩ := trodAll_cons hA
  obtain ⟨v1, vs1, d1, ds1, p1, q1, rfl, rfl, rfl, h1, r1⟩ := trodAll_cons r0
  obtain ⟨v2, vs2, d2, ds2, p2, q2, rfl, rfl, rfl, h2, r2⟩ := trodAll_cons r1
  obtain ⟨v3, vs3, d3, ds3, p3, q3, rfl, rfl, rfl, h3, r3⟩ := trodAll_cons r2
  obtain ⟨rfl, rfl, rfl⟩ := trodAll_nil r3
  obtain rfl : args = #[v0, v1, v2, v3] := by cases args; simp_all
  obtain ⟨rfl, rfl⟩ := trodVars_none hV
  obtain ⟨a0, rfl, rfl, rfl, w0⟩ := open_int Try.underlying22 (hval 0 22 v0 rfl rfl) h0
  obtain ⟨a1, rfl, rfl, rfl, w1⟩ := open_int Try.underlying22 (hval 1 22 v1 rfl rfl) h1
  obtain ⟨a2, rfl, rfl, rfl, w2⟩ := open_int Try.underlying37 (hval 2 37 v2 rfl rfl) h2
  obtain ⟨a3, rfl, rfl, rfl, w3⟩ := open_int Try.underlying37 (hval 3 37 v3 rfl rfl) h3
  clear hA0 hval0
  refine (walk a0 a1 a2 a3 W w0 w1 w2 w3).mono fun e W' ⟨he, bel⟩ => ?_
  subst he
  exact ⟨_, rfl, _, _, _, [], _, [], hW', trodAll_mk1 (shut_bool Try.underlying4 _), (trodAll_cons_mk (shut_int Try.underlying22 w0) (trodAll_cons_mk (shut_int Try.underlying22 w1) (trodAll_cons_mk (shut_int Try.underlying37 w2) (trodAll_cons_mk (shut_int Try.underlying37 w3) trodAll_mk0)))), rfl, bel.frame _, fun h => by cases h⟩

theorem over : Rows.rateGrowsRow.holds Try.pinned (OpenSpec.ofChange Rows.rateGrowsSpec) :=
  OpenClaim.holds_of_wide 5 Try.f5 rfl rfl rfl rfl rfl rfl rfl ⟨rfl, rfl, rfl, rfl, rfl⟩ rfl rfl rfl rfl rfl (by kernel_rfl) Try.func5 (by kernel_rfl)
    (of_decide_eq_true (by kernel_rfl)) (by unfold Func.isWrapper; first | (rw [if_pos (by decide +kernel)]; kernel_rfl) | (rw [if_neg (by decide +kernel)]; exact ⟨rfl, rfl⟩))
    (fun os started H enc _ => lifted os started H enc)

/-- The statement. -/
theorem proved : Rows.RateGrowsSaid := over
#print axioms proved
end Go.Proofs.Ytmlcjmgclfgbiaa.rateGrows
