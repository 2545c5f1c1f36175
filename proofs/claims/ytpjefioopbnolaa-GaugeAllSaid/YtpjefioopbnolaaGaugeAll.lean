/- GaugeAll returns true at every input, and its arguments read as they did: no condition. -/
import Derived.Test.YtpjefioopbnolaaRows
import Derived.WalkKit
import Derived.ProofKit
import Derived.OpenShut
import Derived.ShutString
import Derived.ChangeOld
import Derived.Below
import Derived.WalkSpells
import Derived.WalkLawsBesides
import Derived.Handy
import Derived.Test.YtpjefioopbnolaaMem
import Derived.Test.YtpjefioopbnolaaFl
import Derived.Test.YtpjefioopbnolaaFlRun
import Derived.Test.YtpjefioopbnolaaAlike
import Derived.Test.YtpjefioopbnolaaApp
import Derived.Test.YtpjefioopbnolaaGauV
import Derived.Test.YtpjefioopbnolaaMaxG
import Derived.Test.YtpjefioopbnolaaBits2
import Derived.Test.YtpjefioopbnolaaInf
import Derived.Test.YtpjefioopbnolaaGauS
import Derived.Test.YtpjefioopbnolaaGrade
import Derived.Test.YtpjefioopbnolaaMost
import Derived.Test.YtpjefioopbnolaaFair
import Derived.Test.YtpjefioopbnolaaAw30
import Derived.Test.YtpjefioopbnolaaFloats
namespace Go.Proofs.Ytpjefioopbnolaa.gaugeAll
open Go.ChangeShapes Go.WideShapes Go.ChangeAt Go.RowKit
open Go.ChangeMaps (open_string shut_string)
set_option linter.unusedVariables false

open Fl
set_option maxRecDepth 100000 in
set_option maxHeartbeats 2000000 in
theorem walk (a0 : Option Addr) (len0 cap0 : Nat) (z0 : List Int) (a1 : Int) (w : World) (w0 : IsRow .u64 w a0 len0 cap0 z0) (w1 : (Lit.int .u64 a1).wf = true) :
    Calls Try.prog 3 #[.slice a0 len0 cap0, .int .u64 a1] w fun e w' => e = .returned (.bool true) ∧ Below w.heap.size w w' := by
  have h1 := bounds_u64 w1
  have hl := w0.at.1
  obtain ⟨x, hx⟩ : ∃ x, a1.toNat = x := ⟨_, rfl⟩
  have hxl : x < 18446744073709551616 := by omega
  by_cases h40 : 40 < len0
  · clear w0 w1
    go_enter Try.func3, Try.ntmps3
    go_wp2_with fail
    refine (awake30_any _).mono ?_
    rintro e w1 ⟨rfl, hg⟩
    go_wp2_with fail
    go_ret
    exact ⟨rfl, below_only (Below.refl _ _) (Nat.le_refl _) hg (by simp)⟩
  · have hl4 : len0 ≤ 40 := by omega
    have HFl := Lib.hid (floats_any a0 len0 cap0 z0 (fun i => (zat z0 i).toNat) w w0 (fun _ => rfl) (by omega))
    have HX := Lib.hid hx
    generalize hbb : (fun i => (zat z0 i).toNat) = b at HFl
    clear w0 w1 h40 hbb hx
    go_enter Try.func3, Try.ntmps3
    go_wp2_with fail
    refine HFl.out.mono ?_
    rintro e w1 ⟨a', c', rfl, hfs, hg1⟩
    have HF1 := Lib.hid hfs
    have HG1 := Lib.hid hg1
    clear hfs hg1
    go_wp2_with fail
    refine (mean_any _ _ _ _ _ HF1.out).mono ?_
    rintro e w2 ⟨r1, n1, rfl, hw2, hf1⟩
    have hd2 : w1.grownBy w2 none := by rw [hw2]; exact only_drewN (only_refl _ _) _
    have HF2 := Lib.hid (HF1.out.kept hd2)
    have HG2 := Lib.hid (only_trans HG1.out hd2)
    clear hd2 hw2
    go_wp2_with fail
    refine (rmean_any _ _ _ _ _ HF2.out).mono ?_
    rintro e w3 ⟨r2, n2, rfl, hw3, hf2⟩
    have hd3 : w2.grownBy w3 none := by rw [hw3]; exact only_drewN (only_refl _ _) _
    have HF3 := Lib.hid (HF2.out.kept hd3)
    have HG3 := Lib.hid (only_trans HG2.out hd3)
    have A1 := Lib.hid (al_fits hf1 hf2)
    clear hd3 hw3 hf1 hf2
    go_wp2_with fail
    refine (alike_any _ _ _).mono ?_
    rw [A1.out]
    rintro e w9 ⟨rfl, rfl⟩
    go_wp2_with fail
    refine (most_any _ _ _ _ _ HF3.out).mono ?_
    rintro e w9 ⟨r3, rfl, rfl, hf1⟩
    go_wp2_with fail
    refine (rmost_any _ _ _ _ _ HF3.out).mono ?_
    rintro e w4 ⟨r4, n4, rfl, hw4, hf2⟩
    have hd4 : w3.grownBy w4 none := by rw [hw4]; exact only_drewN (only_refl _ _) _
    have HF4 := Lib.hid (HF3.out.kept hd4)
    have HG4 := Lib.hid (only_trans HG3.out hd4)
    have A2 := Lib.hid (al_fits hf1 hf2)
    clear hd4 hw4 hf1 hf2
    go_wp2_with fail
    refine (alike_any _ _ _).mono ?_
    rw [A2.out]
    rintro e w9 ⟨rfl, rfl⟩
    go_wp2_with fail
    refine (fair_any _ _ _ _ _ HF4.out).mono ?_
    rintro e w5 ⟨r5, n5, rfl, hw5, hf1⟩
    have hd5 : w4.grownBy w5 none := by rw [hw5]; exact only_drewN (only_refl _ _) _
    have HF5 := Lib.hid (HF4.out.kept hd5)
    have HG5 := Lib.hid (only_trans HG4.out hd5)
    clear hd5 hw5
    go_wp2_with fail
    refine (rfair_any _ _ _ _ _ HF5.out (by omega)).mono ?_
    rintro e w6 ⟨r6, rfl, hd6, hf2⟩
    have HG6 := Lib.hid (only_trans HG5.out hd6)
    have A3 := Lib.hid (al_fits hf1 hf2)
    clear hd6 hf1 hf2
    go_wp2_with fail
    refine (alike_any _ _ _).mono ?_
    rw [A3.out]
    rintro e w9 ⟨rfl, rfl⟩
    go_wp2_with fail
    refine (float_any _ _).mono ?_
    rw [HX.out]
    rintro e w9 ⟨rfl, rfl⟩
    go_wp2_with fail
    refine (grade_any _ hxl _).mono ?_
    rintro e w9 ⟨rfl, rfl⟩
    go_wp2_with fail
    refine (float_any _ _).mono ?_
    rw [HX.out]
    rintro e w9 ⟨rfl, rfl⟩
    go_wp2_with fail
    refine (rgrade_any _ hxl _).mono ?_
    rintro e w9 ⟨rfl, rfl⟩
    go_wp2_with fail
    refine (awake30_any _).mono ?_
    rintro e w7 ⟨rfl, hg7⟩
    go_wp2_with fail
    go_ret
    exact ⟨rfl, below_only (below_only (Below.refl _ _) (Nat.le_refl _) HG6.out (by simp)) HG6.out.size hg7 (by simp)⟩

theorem own : ownKnob Try.prog.godebug = none := by kernel_rfl
theorem laidOut : laidOutB Try.prog = true := by kernel_rfl

set_option maxRecDepth 100000 in
theorem lifted (os : Os) (started : os.Started) (H : Type) (enc : TypeId × Value → H) :
    ReturnsInHanded {} Try.checked os 3 .any (Rows.gaugeAllSpec.pre6 enc Try.prog Try.f3 Rows.gaugeAllRow.domain false) (Rows.gaugeAllSpec.post enc Try.prog Try.f3 false true false false) := by
  refine returnsInHanded_of_change (C := Try.checked) own started (by kernel_rfl) Try.func3
    (ChangeSpec.witness6 (enc := enc) (C := Try.checked) false ⟨#[], #[.slice none 0 0, .int .u64 0], []⟩ 8 (by kernel_rfl) (by kernel_rfl) (by kernel_rfl) (by kernel_rfl)) ?_
  intro W base args ds gs before hval0 hW hcnd _
  have hval : ∀ (j : Nat) t v, Try.f3.params[j]? = some t → args[j]? = some v → Value.okWide Try.prog W .any base t v := hval0
  have hW' := hW
  obtain ⟨p, q, hA0, hV, rfl, hfz, hnd⟩ := hW
  have hA : DataW.TrodAll enc Try.prog W 0 (fun _ => true) true Try.f3.params.toList args.toList ds p := hA0
  rw [Try.params3] at hA hval
  obtain ⟨v0, vs0, d0, ds0, p0, q0, hargs, rfl, rfl, h0, r0⟩ := trodAll_cons hA
  obtain ⟨v1, vs1, d1, ds1, p1, q1, rfl, rfl, rfl, h1, r1⟩ := trodAll_cons r0
  obtain ⟨rfl, rfl, rfl⟩ := trodAll_nil r1
  obtain rfl : args = #[v0, v1] := by cases args; simp_all
  obtain ⟨rfl, rfl⟩ := trodVars_none hV
  obtain ⟨a0, len0, cap0, rfl⟩ := okWide_slice Try.underlying22 (hval 0 22 v0 rfl rfl)
  have k0 := h0
  have lt0 : ∀ x ∈ p0, x.block < W.heap.size := by obtain ⟨m, hm⟩ := k0; exact DataW.trod_lt m _ _ _ hm
  obtain ⟨z0, w0⟩ : ∃ zs, IsRow .u64 W a0 len0 cap0 zs := by
    obtain ⟨fuel, hf⟩ := h0
    rcases open_ints Try.underlying22 Try.underlying23 (by kernel_rfl) hf with ⟨hcs, _⟩ | ⟨x, l, c, zs, hcs, _, hl, hm, hz, _, hcell, hwz⟩
    · simp [Value.cells] at hcs
      obtain ⟨rfl, rfl, rfl⟩ := hcs
      exact ⟨[], .inl ⟨rfl, rfl, rfl, rfl⟩⟩
    · simp [Value.cells] at hcs
      obtain ⟨rfl, rfl, rfl⟩ := hcs
      exact ⟨zs, .inr ⟨_, rfl, hl, hm, by simpa using hz, hcell, hwz⟩⟩
  obtain ⟨a1, rfl, rfl, rfl, w1⟩ := open_int Try.underlying23 (hval 1 23 v1 rfl rfl) h1
  clear hA0 hval0
  refine (walk a0 len0 cap0 z0 a1 W w0 w1).mono fun e W' ⟨he, bel⟩ => ?_
  subst he
  exact ⟨_, rfl, _, _, _, [], _, [], hW', trodAll_mk1 (shut_bool Try.underlying4 _), (trodAll_cons_mk (Below.trod laidOut (by kernel_rfl) (of_decide_eq_true (by kernel_rfl)) k0 bel lt0) (trodAll_cons_mk (shut_int Try.underlying23 w1) trodAll_mk0)), rfl, bel.frame _, fun h => by cases h⟩

theorem over : Rows.gaugeAllRow.holds Try.pinned (OpenSpec.ofChange Rows.gaugeAllSpec) :=
  OpenClaim.holds_of_wide 3 Try.f3 rfl rfl rfl rfl rfl rfl rfl ⟨rfl, rfl, rfl, rfl, rfl⟩ rfl rfl rfl rfl rfl (by kernel_rfl) Try.func3 (by kernel_rfl)
    (of_decide_eq_true (by kernel_rfl)) (by unfold Func.isWrapper; first | (rw [if_pos (by decide +kernel)]; kernel_rfl) | (rw [if_neg (by decide +kernel)]; exact ⟨rfl, rfl⟩))
    (fun os started H enc _ => lifted os started H enc)

/-- The statement. -/
theorem proved : Rows.GaugeAllSaid := over
#print axioms proved
end Go.Proofs.Ytpjefioopbnolaa.gaugeAll
