/- GaugeFair returns true at every input, and its arguments read as they did: no condition. -/
import Derived.Test.YtpjefioopbnolaaRows
import Derived.WalkKit
import Derived.ProofKit
import Derived.OpenShut
import Derived.ShutString
import Derived.ChangeOld
import Derived.Below
import Derived.WalkSpells
import Derived.WalkLawsBesides
import Derived.Handy
import Derived.Outline
import Derived.Deep.QuietTactic
import Derived.BigQuiet
import Derived.Test.YtpjefioopbnolaaMem
import Derived.Test.YtpjefioopbnolaaFl
import Derived.Test.YtpjefioopbnolaaFlRun
import Derived.Test.YtpjefioopbnolaaAlike
import Derived.Test.YtpjefioopbnolaaApp
import Derived.Test.YtpjefioopbnolaaGauV
import Derived.Test.YtpjefioopbnolaaMaxG
import Derived.Test.YtpjefioopbnolaaBits2
import Derived.Test.YtpjefioopbnolaaInf
import Derived.Test.YtpjefioopbnolaaGauS
import Derived.Test.YtpjefioopbnolaaGrade
import Derived.Test.YtpjefioopbnolaaMost
import Derived.Test.YtpjefioopbnolaaFair
import Derived.Test.YtpjefioopbnolaaAw30
import Derived.Test.YtpjefioopbnolaaFloats
import Derived.Test.YtpjefioopbnolaaMeansP
import Derived.Test.YtpjefioopbnolaaMeansQ
import Derived.Test.YtpjefioopbnolaaMeansR
import Derived.Test.YtpjefioopbnolaaFairP
import Derived.Test.YtpjefioopbnolaaFairQ
import Derived.Test.YtpjefioopbnolaaFairZ
namespace Go.Proofs.Ytpjefioopbnolaa.gaugeFair
open Go.ChangeShapes Go.WideShapes Go.ChangeAt Go.RowKit
open Go.ChangeMaps (open_string shut_string)
set_option linter.unusedVariables false

open Fl
def FwRel (z : Nat → Int) (t len : Nat) (w : World) (v5 v6 v7 v8 v9 : Value) (wr : World) : Prop :=
  ∃ k : Nat, k ≤ len ∧ v9 = .int .i64 k ∧ v7 = .bool (alF z k) ∧ v8 = .bool (soF z k) ∧ wr.ownsRow w.heap.size 28 1 v5 k (fsL (fun i => floatOfInt .f64 (z ((i + t) % len))) k) ∧
    wr.ownsRow w.heap.size 28 1 v6 k (fsL (fun i => floatOfInt .f64 (2 * z i)) k) ∧ Apart v5.ownBlock v6.ownBlock ∧ w.grownBy wr none
set_option maxRecDepth 100000 in
set_option maxHeartbeats 4000000 in
theorem walk (a0 : Option Addr) (len0 cap0 : Nat) (z0 : List Int) (a1 : Int) (w : World) (w0 : IsRow .u8 w a0 len0 cap0 z0) (w1 : (Lit.int .u8 a1).wf = true) :
    Calls Try.prog 5 #[.slice a0 len0 cap0, .int .u8 a1] w fun e w' => e = .returned (.bool true) ∧ Below w.heap.size w w' := by
  have b1 := bounds_u8 w1
  obtain ⟨hl, hwz, hc⟩ := w0.at
  have hzb := zat_u8 w0
  obtain ⟨z, hz⟩ : ∃ z, zat z0 = z := ⟨_, rfl⟩
  rw [hz] at hzb hc
  have Hb := Lib.hid hzb
  obtain ⟨t, ht⟩ := Int.eq_ofNat_of_zero_le b1.1
  have HM := Lib.hid (fun h1 h2 => fair_say (n := len0) hzb t h1 h2)
  have Hc := Lib.hid hc
  subst ht
  clear w0 w1 hc hwz hzb hz
  by_cases hsm : len0 = 0 ∨ 40 < len0
  · have h0 : (((len0 : Int) == 0) = true ∧ len0 = 0) ∨ (((len0 : Int) == 0) = false ∧ decide ((len0 : Int) > 40) = true) := by
      by_cases e : len0 = 0
      · left; subst e; exact ⟨rfl, rfl⟩
      · right; exact ⟨by simpa using e, by simp; omega⟩
    clear hsm
    go_enter Try.func5, Try.ntmps5
    rcases h0 with ⟨h1, h2⟩ | ⟨h1, h2⟩
    · go_wp2_with fail
      refine (awake30_any _).mono ?_
      rintro e w7 ⟨rfl, hg⟩
      go_wp2_with fail
      go_ret
      exact ⟨rfl, below_only (Below.refl _ _) (Nat.le_refl _) hg (by simp)⟩
    · go_wp2_with fail
      refine (awake30_any _).mono ?_
      rintro e w7 ⟨rfl, hg⟩
      go_wp2_with fail
      go_ret
      exact ⟨rfl, below_only (Below.refl _ _) (Nat.le_refl _) hg (by simp)⟩
  have h40 : len0 ≤ 40 := by omega
  have h1 : 1 ≤ len0 := by omega
  have hn0 : ((len0 : Int) == 0) = false := by simp; omega
  have hk0 : ¬ len0 = 0 := by omega
  clear hsm
  have HS : Hid (FwRel z t len0 w (.slice none 0 0) (.slice none 0 0) (.bool true) (.bool false) (.int .i64 0) w) := ⟨0, by omega, rfl, rfl, rfl, World.ownsRow_nil _ _ _ _, World.ownsRow_nil _ _ _ _, .inl rfl, only_refl _ _⟩
  go_enter Try.func5, Try.ntmps5
  go_wp2_with fail
  go_loopw [5, 6, 7, 8, 9] (fun v5 v6 v7 v8 v9 wr => FwRel z t len0 w v5 v6 v7 v8 v9 wr) (fun _ _ _ _ i _ => len0 - (intOf i).toNat)
  case atStart => exact HS.out
  case round =>
    clear HS
    obtain ⟨k, hk, rfl, rfl, rfl, ho, hp, ha, hg⟩ := hrel
    have HO := Lib.hid ho
    have HP := Lib.hid hp
    have HAp := Lib.hid ha
    have HG := Lib.hid hg
    have hsz : w.heap.size ≤ wr.heap.size := hg.size
    clear ho hp ha hg
    by_cases hlt : k < len0
    · obtain ⟨g, off, rfl, hglt, hcell⟩ := Hc.out (by omega)
      have hi0 : (0 : Int) ≤ (k : Int) := by omega
      have hi1 : (k : Int) < (len0 : Int) := by omega
      obtain ⟨j, hj⟩ : ∃ j : Nat, (k + t) % len0 = j := ⟨_, rfl⟩
      have hjl : j < len0 := by rw [← hj]; exact Nat.mod_lt _ (by omega)
      have hjj : ((k : Int) + (t : Int)) % (len0 : Int) = (j : Int) := by subst hj; rfl
      have hj0 : (0 : Int) ≤ (j : Int) := by omega
      have hj1 : (j : Int) < (len0 : Int) := by omega
      have HJ := Lib.hid hj
      have hcj := keep_new HG.out (hcell j hjl)
      have HCE := Lib.hid hcell
      have hbk := Hb.out k
      obtain ⟨zk, hzk⟩ : ∃ m, z k = m := ⟨_, rfl⟩
      obtain ⟨zj, hzj⟩ : ∃ m, z j = m := ⟨_, rfl⟩
      rw [hzj] at hcj
      rw [hzk] at hbk
      have HZK := Lib.hid hzk
      have HZJ := Lib.hid hzj
      have HT := Lib.hid (fun W : World => run_float_arith (P := Try.prog) W .mul 28 .f64 _ _ _ (twice_int hbk.1 hbk.2))
      have hT := HT.out
      have hfj : floatOfInt .f64 (z ((k + t) % len0)) = floatOfInt .f64 zj := by rw [hj, hzj]
      have hfk : floatOfInt .f64 (2 * z k) = floatOfInt .f64 (2 * zk) := by rw [hzk]
      clear hcell hj hzk hzj
      go_wp2_with (at_builtin; first
        | (refine wpList_append1 rfl (.tmp 38) (.tmp 40) 25 rfl w.heap.size 28 (.float .f64 0) 8 Try.underlying25 infoF rfl _ k _ rfl wr HO.out _ rfl rfl rfl (by omega) (by omega) hsz ?_
           intro v5' w1 hw1 hg1 hat1
           rw [← hfj, fsL_succ] at hw1
           have Hw1 := Lib.hid hw1
           have Hg1 := Lib.hid (grow_own HG.out hg1 (own_ge HO.out))
           have Hp1 := Lib.hid (HP.out.kept hg1 HAp.out.ne)
           have Ha1 := Lib.hid (HAp.out.step (own_lt HP.out) hat1)
           clear hw1 hg1 hat1
           have hsz1 : w.heap.size ≤ w1.heap.size := Hg1.out.size
           have hck := keep_new Hg1.out (HCE.out k hlt)
           rw [HZK.out] at hck)
        | (refine wpList_append1 rfl (.tmp 42) (.tmp 49) 25 rfl w.heap.size 28 (.float .f64 0) 8 Try.underlying25 infoF rfl _ k _ rfl w1 Hp1.out _ rfl rfl rfl (by omega) (by omega) hsz1 ?_
           intro v6' w2 hw2 hg2 hat2
           rw [← hfk, fsL_succ] at hw2
           have Hw2 := Lib.hid hw2
           have Hg2 := Lib.hid (grow_own Hg1.out hg2 (own_ge Hp1.out))
           have Hp2 := Lib.hid (Hw1.out.kept hg2 Ha1.out.symm.ne)
           have Ha2 := Lib.hid (Ha1.out.symm.step (own_lt Hw1.out) hat2).symm
           clear hw2 hg2 hat2 hck
           have hck2 := keep_new Hg2.out (HCE.out k hlt)
           have hc02 := keep_new Hg2.out (HCE.out 0 (by omega))
           rw [HZK.out] at hck2))
      obtain ⟨zz, hzz⟩ : ∃ m, z 0 = m := ⟨_, rfl⟩
      rw [hzz, Nat.add_zero] at hc02
      have hp0 : (0 : Int) < (len0 : Int) := by omega
      have hp1 : 0 < len0 := by omega
      have eA : alF z (k + 1) = (alF z k && (zk == zz)) := by rw [← hzz, ← HZK.out]; rfl
      have eS : soF z (k + 1) = (soF z k || decide (0 < zk)) := by rw [← HZK.out]; rfl
      have HN : ∀ q, Hid (FwRel z t len0 w v5' v6' (.bool (alF z (k + 1))) (.bool (soF z (k + 1))) (.int .i64 ((k : Int) + 1)) (w2.drewN q)) :=
        fun q => ⟨k + 1, by omega, by go_num, rfl, rfl, Hp2.out, Hw2.out, Ha2.out, only_drewN Hg2.out q⟩
      rw [eA, eS] at HN
      clear eA eS hzz Hp2 Hw2 Ha2 Hg2 HO HP HAp HG HT hT
      generalize alF z k = bA at *
      generalize soF z k = bS at *
      rcases bA with _ | _ <;> rcases bS with _ | _
      all_goals simp only [Bool.true_and, Bool.false_and, Bool.true_or, Bool.false_or] at HN
      all_goals (
        go_quiet (fail)
        go_wp2_with fail
        exact ⟨(HN nq).out, by simp [intOf]; omega⟩)
    · have : k = len0 := by omega
      subst this
      obtain ⟨wo, rfl⟩ : ∃ wo : World, wo = wr := ⟨_, rfl⟩
      obtain ⟨a5, c5, rfl, h5⟩ := own_fs HO.out (fun i _ => (fits_int (z ((i + t) % k))).1) (by omega)
      obtain ⟨a6, c6, rfl, h6⟩ := own_fs HP.out (fun i _ => (fits_int (2 * z i)).1) (by omega)
      have H5 := Lib.hid h5
      have H6 := Lib.hid h6
      have hM := HM.out (by omega) (by omega)
      clear h5 h6 HO HP HAp HM Hb
      obtain ⟨hM0, hM1⟩ := hM
      cases hb : soF z k with
      | false =>
        have HV := Lib.hid (hM0 hb)
        have x1 := eq_1
        clear hM0 hM1 hb
        generalize alF z k = bA at *
        go_wp2_with fail
        refine (fair_is _ _ _ _ _ H5.out _ HV.out).mono ?_
        rintro e w3 ⟨rfl, hg3⟩
        have HG3 := Lib.hid (only_trans HG.out hg3)
        clear hg3
        go_wp2_with fail
        refine (awake30_any _).mono ?_
        rintro e w4 ⟨rfl, hg4⟩
        go_wp2_with fail
        go_ret
        exact ⟨rfl, below_only (Below.refl _ _) (Nat.le_refl _) (only_trans HG3.out hg4) (by simp)⟩
      | true =>
        obtain ⟨r, m, g1, g2, g3, g4, g5, g6, g7, g8⟩ := hM1 hb
        have HV := Lib.hid g1
        have HV2 := Lib.hid g2
        have hri : r ≤ inf := Nat.le_trans g4 one_lt
        have d1 := (cmp_gt r 0).trans ((flt_small (Nat.zero_le _) hri).trans (decide_eq_true g3))
        have d4 := (cmp_eq r 4607182418800017408).trans g5
        have d5 := (cmp_eq r r).trans ((feq_self r).trans (by rw [small_isN hri, Bool.not_false]))
        have d6 : ∀ W : World, (binOp .mul 28 (.float .f64 r) (.float .f64 (floatOfInt .f64 (k : Int)))).run Try.prog W = .ok (.float .f64 m) W := fun W => run_float_arith W .mul 28 .f64 _ _ _ g6
        have hci : (4607182409792818153 : Nat) ≤ inf := by decide
        have d2 : (FloatKind.f64.format.order r 4607182418800017408 == some .lt) = !(alF z k) := by
          rw [cmp_lt, flt_small hri one_lt, ← g5, feq_small hri one_lt, ← decide_not]
          exact decide_eq_decide.2 (by omega)
        have d7 : ∃ x y : Bool, (FloatKind.f64.format.order m 4607182409792818153 == some .gt) = x ∧ (FloatKind.f64.format.order m 4607182409792818153 == some .eq) = y ∧ (x || y) = true := by
          refine ⟨_, _, rfl, rfl, ?_⟩
          rw [cmp_gt, cmp_eq, flt_small hci g7, feq_small g7 hci, Bool.or_eq_true, decide_eq_true_eq, decide_eq_true_eq]
          omega
        obtain ⟨x, y, d8, d9, dxy⟩ := d7
        have hxy : (x = true) ∨ (x = false ∧ y = true) := by cases x <;> simp_all
        clear hM0 hM1 hb g1 g2 g5 g6 dxy g3 g4 g7 g8 hri hci
        generalize alF z k = bA at *
        go_wp2_with fail
        refine (fair_is _ _ _ _ _ H5.out _ HV.out).mono ?_
        rintro e w3 ⟨rfl, hg3⟩
        have HG3 := Lib.hid (only_trans HG.out hg3)
        have H63 := Lib.hid (H6.out.kept hg3)
        clear hg3
        rcases bA with _ | _ <;> rcases hxy with rfl | ⟨rfl, rfl⟩
        all_goals simp only [Bool.not_false, Bool.not_true] at d2
        all_goals (
          go_wp2_with fail
          refine (fair_is _ _ _ _ _ H63.out _ HV2.out).mono ?_
          rintro e w4 ⟨rfl, hg4⟩
          have HG4 := Lib.hid (only_trans HG3.out hg4)
          clear hg4
          go_wp2_with fail
          refine (awake30_any _).mono ?_
          rintro e w5 ⟨rfl, hg5⟩
          go_wp2_with fail
          go_ret
          exact ⟨rfl, below_only (Below.refl _ _) (Nat.le_refl _) (only_trans HG4.out hg5) (by simp)⟩)

theorem own : ownKnob Try.prog.godebug = none := by kernel_rfl
theorem laidOut : laidOutB Try.prog = true := by kernel_rfl

set_option maxRecDepth 100000 in
theorem lifted (os : Os) (started : os.Started) (H : Type) (enc : TypeId × Value → H) :
    ReturnsInHanded {} Try.checked os 5 .any (Rows.gaugeFairSpec.pre6 enc Try.prog Try.f5 Rows.gaugeFairRow.domain false) (Rows.gaugeFairSpec.post enc Try.prog Try.f5 false true false false) := by
  refine returnsInHanded_of_change (C := Try.checked) own started (by kernel_rfl) Try.func5
    (ChangeSpec.witness6 (enc := enc) (C := Try.checked) false ⟨#[], #[.slice none 0 0, .int .u8 0], []⟩ 8 (by kernel_rfl) (by kernel_rfl) (by kernel_rfl) (by kernel_rfl)) ?_
  intro W base args ds gs before hval0 hW hcnd _
  have hval : ∀ (j : Nat) t v, Try.f5.params[j]? = some t → args[j]? = some v → Value.okWide Try.prog W .any base t v := hval0
  have hW' := hW
  obtain ⟨p, q, hA0, hV, rfl, hfz, hnd⟩ := hW
  have hA : DataW.TrodAll enc Try.prog W 0 (fun _ => true) true Try.f5.params.toList args.toList ds p := hA0
  rw [Try.params5] at hA hval
  obtain ⟨v0, vs0, d0, ds0, p0, q0, hargs, rfl, rfl, h0, r0⟩ := trodAll_cons hA
  obtain ⟨v1, vs1, d1, ds1, p1, q1, rfl, rfl, rfl, h1, r1⟩ := trodAll_cons r0
  obtain ⟨rfl, rfl, rfl⟩ := trodAll_nil r1
  obtain rfl : args = #[v0, v1] := by cases args; simp_all
  obtain ⟨rfl, rfl⟩ := trodVars_none hV
  obtain ⟨a0, len0, cap0, rfl⟩ := okWide_slice Try.underlying40 (hval 0 40 v0 rfl rfl)
  have k0 := h0
  have lt0 : ∀ x ∈ p0, x.block < W.heap.size := by obtain ⟨m, hm⟩ := k0; exact DataW.trod_lt m _ _ _ hm
  obtain ⟨z0, w0⟩ : ∃ zs, IsRow .u8 W a0 len0 cap0 zs := by
    obtain ⟨fuel, hf⟩ := h0
    rcases open_ints Try.underlying40 Try.underlying5 (by kernel_rfl) hf with ⟨hcs, _⟩ | ⟨x, l, c, zs, hcs, _, hl, hm, hz, _, hcell, hwz⟩
    · simp [Value.cells] at hcs
      obtain ⟨rfl, rfl, rfl⟩ := hcs
      exact ⟨[], .inl ⟨rfl, rfl, rfl, rfl⟩⟩
    · simp [Value.cells] at hcs
      obtain ⟨rfl, rfl, rfl⟩ := hcs
      exact ⟨zs, .inr ⟨_, rfl, hl, hm, by simpa using hz, hcell, hwz⟩⟩
  obtain ⟨a1, rfl, rfl, rfl, w1⟩ := open_int Try.underlying5 (hval 1 5 v1 rfl rfl) h1
  clear hA0 hval0
  refine (walk a0 len0 cap0 z0 a1 W w0 w1).mono fun e W' ⟨he, bel⟩ => ?_
  subst he
  exact ⟨_, rfl, _, _, _, [], _, [], hW', trodAll_mk1 (shut_bool Try.underlying4 _), (trodAll_cons_mk (Below.trod laidOut (by kernel_rfl) (of_decide_eq_true (by kernel_rfl)) k0 bel lt0) (trodAll_cons_mk (shut_int Try.underlying5 w1) trodAll_mk0)), rfl, bel.frame _, fun h => by cases h⟩

theorem over : Rows.gaugeFairRow.holds Try.pinned (OpenSpec.ofChange Rows.gaugeFairSpec) :=
  OpenClaim.holds_of_wide 5 Try.f5 rfl rfl rfl rfl rfl rfl rfl ⟨rfl, rfl, rfl, rfl, rfl⟩ rfl rfl rfl rfl rfl (by kernel_rfl) Try.func5 (by kernel_rfl)
    (of_decide_eq_true (by kernel_rfl)) (by unfold Func.isWrapper; first | (rw [if_pos (by decide +kernel)]; kernel_rfl) | (rw [if_neg (by decide +kernel)]; exact ⟨rfl, rfl⟩))
    (fun os started H enc _ => lifted os started H enc)

/-- The statement. -/
theorem proved : Rows.GaugeFairSaid := over
#print axioms proved
end Go.Proofs.Ytpjefioopbnolaa.gaugeFair
