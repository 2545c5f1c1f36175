/- GaugeMeans returns true at every input, and its arguments read as they did: no condition. -/
import Derived.Test.YtpjefioopbnolaaRows
import Derived.WalkKit
import Derived.ProofKit
import Derived.OpenShut
import Derived.ShutString
import Derived.ChangeOld
import Derived.Below
import Derived.WalkSpells
import Derived.WalkLawsBesides
import Derived.Handy
import Derived.Outline
import Derived.StillTailTactics
import Derived.Test.YtpjefioopbnolaaMem
import Derived.Test.YtpjefioopbnolaaFl
import Derived.Test.YtpjefioopbnolaaFlRun
import Derived.Test.YtpjefioopbnolaaAlike
import Derived.Test.YtpjefioopbnolaaApp
import Derived.Test.YtpjefioopbnolaaGauV
import Derived.Test.YtpjefioopbnolaaMaxG
import Derived.Test.YtpjefioopbnolaaBits2
import Derived.Test.YtpjefioopbnolaaInf
import Derived.Test.YtpjefioopbnolaaGauS
import Derived.Test.YtpjefioopbnolaaGrade
import Derived.Test.YtpjefioopbnolaaMost
import Derived.Test.YtpjefioopbnolaaFair
import Derived.Test.YtpjefioopbnolaaAw30
import Derived.Test.YtpjefioopbnolaaFloats
import Derived.Test.YtpjefioopbnolaaMeansP
import Derived.Test.YtpjefioopbnolaaMeansQ
import Derived.Test.YtpjefioopbnolaaMeansR
namespace Go.Proofs.Ytpjefioopbnolaa.gaugeMeans
open Go.ChangeShapes Go.WideShapes Go.ChangeAt Go.RowKit
open Go.ChangeMaps (open_string shut_string)
set_option linter.unusedVariables false

open Fl
def MeRel (z : Nat → Int) (len : Nat) (w : World) (v8 v9 v10 : Value) (wr : World) : Prop :=
  ∃ k : Nat, k ≤ len ∧ v10 = .int .i64 k ∧ v9 = .int .i64 (minZ z k) ∧ wr.ownsRow w.heap.size 28 1 v8 k (fsL (fun i => floatOfInt .f64 (z i)) k) ∧ w.grownBy wr none
set_option maxRecDepth 100000 in
set_option maxHeartbeats 4000000 in
theorem walk (a0 : Option Addr) (len0 cap0 : Nat) (z0 : List Int) (a1 a2 : Int) (w : World) (w0 : IsRow .i16 w a0 len0 cap0 z0) (w1 : (Lit.int .u64 a1).wf = true) (w2 : (Lit.int .u8 a2).wf = true) :
    Calls Try.prog 4 #[.slice a0 len0 cap0, .int .u64 a1, .int .u8 a2] w fun e w' => e = .returned (.bool true) ∧ Below w.heap.size w w' := by
  have b1 := bounds_u64 w1
  have b2 := bounds_u8 w2
  obtain ⟨hl, hwz, hc⟩ := w0.at
  obtain ⟨x, hx⟩ : ∃ x, a1.toNat = x := ⟨_, rfl⟩
  have hxl : x < 18446744073709551616 := by omega
  have hzb := zat_i16 w0
  obtain ⟨z, hz⟩ : ∃ z, zat z0 = z := ⟨_, rfl⟩
  rw [hz] at hzb hc hwz
  have Hb := Lib.hid hzb
  have HM := Lib.hid (fun h1 h2 => means_lt (n := len0) hzb h1 h2)
  have Hc := Lib.hid hc
  have Hz := Lib.hid hwz
  have HX := Lib.hid hx
  have HB2 := Lib.hid b2
  clear w0 w1 w2 hc hwz hx b2 hzb hz
  go_enter Try.func4, Try.ntmps4
  go_wp2_with fail
  refine (float_any _ _).mono ?_
  rw [HX.out]
  rintro e w9 ⟨rfl, rfl⟩
  go_wp2_with fail
  refine (mean_any (some ⟨w.heap.size, 0, none⟩) 1 1 (fun _ => x) _ (row1 w x hxl)).mono ?_
  rintro e w3 ⟨r1, n1, rfl, hw3, hf1⟩
  have HG3 := Lib.hid (only_trans (World.grownBy_alloc w _ _) (show (w.alloc _).grownBy w3 none by rw [hw3]; exact only_drewN (only_refl _ _) _))
  clear hw3
  obtain ⟨q, n, e1, hq⟩ := run_op (P := Try.prog) w3 .quo 28 x 4607182418800017408 (by simp)
  rw [op_fits (op := .quo) (by simp) (fits_av hxl) fits_one] at hq
  have HA := Lib.hid (al_fits hf1 hq)
  clear hf1 hq
  go_wp2_with fail
  refine (alike_any _ _ _).mono ?_
  rw [HA.out]
  rintro e w9 ⟨rfl, rfl⟩
  have HG4 := Lib.hid (only_drewN HG3.out n)
  clear HG3 HA e1
  obtain ⟨w4, hw4⟩ : ∃ w4 : World, w4 = w3.drewN n := ⟨_, rfl⟩
  rw [← hw4] at HG4
  rw [← hw4]
  clear hw4
  go_wp2_with fail
  refine (mean_any none 0 0 (fun _ => 0) _ (nil_fs w4 _)).mono ?_
  rintro e w5 ⟨r2, n2, rfl, hw5, hf2⟩
  rw [mean_nil] at hf2
  have hr2 : isN r2 = true := hf2.2
  have HG5 := Lib.hid (only_trans HG4.out (show w4.grownBy w5 none by rw [hw5]; exact only_drewN (only_refl _ _) _))
  clear hw5 hf2 HG4
  go_wp2_with fail
  refine (isnan_any _ _).mono ?_
  rw [hr2]
  rintro e w9 ⟨rfl, rfl⟩
  clear hr2
  go_wp2_with fail
  refine (most_is none 0 0 (fun _ => 0) _ (nil_fs w5 _) _ (most_nil _)).mono ?_
  rintro e w9 ⟨rfl, rfl⟩
  go_wp2_with fail
  refine (isinf_down 18442240474082181120 (by omega) _).mono ?_
  rw [down_true]
  rintro e w9 ⟨rfl, rfl⟩
  go_wp2_with fail
  refine (most_any (some ⟨w5.heap.size, 0, none⟩) 1 1 (fun _ => x) _ (row1 w5 x hxl)).mono ?_
  rintro e w6 ⟨r3, rfl, hw6, hf3⟩
  have HG6 := Lib.hid (only_trans HG5.out (show w5.grownBy w6 none by rw [← hw6]; exact World.grownBy_alloc w5 _ _))
  rw [most_one hxl] at hf3
  have HA := Lib.hid (al_fits hf3 (fits_av hxl))
  clear hw6 hf3 HG5
  go_wp2_with fail
  refine (alike_any _ _ _).mono ?_
  rw [HA.out]
  rintro e w9 ⟨rfl, rfl⟩
  clear HA
  by_cases hsm : len0 = 0 ∨ 60 < len0
  · have h0 : (((len0 : Int) == 0) = true ∧ len0 = 0) ∨ (((len0 : Int) == 0) = false ∧ decide ((len0 : Int) > 60) = true) := by
      by_cases e : len0 = 0
      · left; subst e; exact ⟨rfl, rfl⟩
      · right; exact ⟨by simpa using e, by simp; omega⟩
    clear hsm
    rcases h0 with ⟨h1, h2⟩ | ⟨h1, h2⟩
    · go_wp2_with fail
      refine (awake30_any _).mono ?_
      rintro e w7 ⟨rfl, hg⟩
      go_wp2_with fail
      go_ret
      exact ⟨rfl, below_only (Below.refl _ _) (Nat.le_refl _) (only_trans HG6.out hg) (by simp)⟩
    · go_wp2_with fail
      refine (awake30_any _).mono ?_
      rintro e w7 ⟨rfl, hg⟩
      go_wp2_with fail
      go_ret
      exact ⟨rfl, below_only (Below.refl _ _) (Nat.le_refl _) (only_trans HG6.out hg) (by simp)⟩
  have h60 : len0 ≤ 60 := by omega
  have h1 : 1 ≤ len0 := by omega
  have hn0 : ((len0 : Int) == 0) = false := by simp; omega
  clear hsm
  have HS : Hid (MeRel z len0 w (.slice none 0 0) (.int .i64 0) (.int .i64 0) w6) := ⟨0, by omega, rfl, rfl, World.ownsRow_nil _ _ _ _, HG6.out⟩
  clear HG6
  go_wp2_with fail
  go_loopw [8, 9, 10] (fun v l i wr => MeRel z len0 w v l i wr) (fun _ _ i _ => len0 - (intOf i).toNat)
  case atStart => exact HS.out
  case round =>
    clear HS
    obtain ⟨k, hk, rfl, rfl, ho, hg⟩ := hrel
    have HO := Lib.hid ho
    have HG := Lib.hid hg
    have hsz : w.heap.size ≤ wr.heap.size := hg.size
    clear ho hg
    by_cases hlt : k < len0
    · obtain ⟨g, off, rfl, hglt, hcell⟩ := Hc.out (by omega)
      have hc0 := hcell k hlt
      have hi0 : (0 : Int) ≤ (k : Int) := by omega
      have hi1 : (k : Int) < (len0 : Int) := by omega
      obtain ⟨m, hm⟩ : ∃ m, minZ z (k + 1) = m := ⟨_, rfl⟩
      have HMM := Lib.hid hm
      obtain ⟨l, hl⟩ : ∃ m, minZ z k = m := ⟨_, rfl⟩
      obtain ⟨zk, hzk⟩ : ∃ m, z k = m := ⟨_, rfl⟩
      have hfl : floatOfInt .f64 (z k) = floatOfInt .f64 zk := by rw [hzk]
      rw [hzk] at hc0
      have hck := keep_new HG.out hc0
      have HC0 := Lib.hid hc0
      have HMS : Hid ((if wrap64 zk < l then wrap64 zk else l) = minZ z (k + 1)) := by
        have hb := Hb.out k
        rw [hzk] at hb
        have hw : wrap64 zk = zk := by unfold wrap64; omega
        rw [hw]
        show _ = if z k < minZ z k then z k else minZ z k
        rw [hzk, hl]
      rw [hl]
      clear hcell hm hc0
      go_wp2_with (at_builtin; go_loud (refine wpList_append1 rfl (.tmp 54) (.tmp 60) 25 rfl w.heap.size 28 (.float .f64 0) 8 Try.underlying25 infoF rfl _ k _ rfl wr HO.out _ rfl rfl rfl (by omega) (by omega) hsz ?_; intro v' w1 hw1 hg1 hat; rw [← hfl, fsL_succ] at hw1; have hc1 := keep_new (grow_own HG.out hg1 (own_ge HO.out)) HC0.out; have HN : Hid (MeRel z len0 w v' (.int .i64 (minZ z (k + 1))) (.int .i64 ((k : Int) + 1)) w1) := ⟨k + 1, by omega, by go_num, rfl, hw1, grow_own HG.out hg1 (own_ge HO.out)⟩; clear hw1 hg1 hat hck))
      exact ⟨by rw [HMS.out]; exact HN.out, by simp [intOf]; omega⟩
    · have : k = len0 := by omega
      subst this
      obtain ⟨a', c', rfl, h3⟩ := own_fs HO.out (fun i _ => (fits_int (z i)).1) (by omega)
      obtain ⟨g, cp, cur, hv, hge, hbk, hcs, hcur⟩ := own_blk HO.out (by omega)
      injection hv with hv1 hv2 hv3
      subst hv1; subst hv3
      obtain ⟨q0, mo, e1, e2, e3, e4⟩ := HM.out (by omega) (by omega)
      have H3 := Lib.hid h3
      have HBK := Lib.hid hbk
      have HCU := Lib.hid hcur
      have HE1 := Lib.hid e1
      have HE2 := Lib.hid e2
      clear h3 HO hbk hcur e1 e2 HM
      go_wp2_with fail
      refine (mean_is _ _ _ _ _ H3.out _ HE1.out).mono ?_
      rintro e w7 ⟨rfl, hg7⟩
      have HG7 := Lib.hid (only_trans HG.out hg7)
      have HF7 := Lib.hid (H3.out.kept hg7)
      have HBK7 := Lib.hid (HBK.out.kept hg7 (by simp))
      clear hg7 HG HBK H3
      go_wp2_with fail
      have c1 := (cmp_gt q0 mo).trans e3
      have c2 := (cmp_lt q0 (floatOfInt .f64 (minZ z k))).trans e4
      generalize minZ z k = l at *
      refine (most_is _ _ _ _ _ HF7.out _ HE2.out).mono ?_
      rintro e w8 ⟨rfl, rfl⟩
      clear e3 e4 HE1 HE2
      have m1 := Int.emod_nonneg a2 (b := (k : Int)) (by omega)
      have m2 := Int.emod_lt_of_pos a2 (b := (k : Int)) (by omega)
      obtain ⟨j, hj⟩ := Int.eq_ofNat_of_zero_le m1
      have hjk : j < k := by omega
      have hst := run_store_float Try.prog
      have hcj : w7.cell? ⟨g, j, none⟩ = some (.float .f64 (floatOfInt .f64 (z j))) := by rw [HBK7.out.cell]; exact HCU.out j hjk
      have hfj := HBK7.out.free j
      have hk0 : ¬ k = 0 := by omega
      have HB2' := HB2.out
      have hmod : (IntKind.i64.wrap a2).tmod (k : Int) = (j : Int) := by rw [Go.IntWalk.i64_in a2 (by omega), Go.IntWalk.rem_in _ _ (by omega), hj]
      rw [hj] at m1 m2
      go_wp2_with fail
      refine wp_region_still_tail 8 (by kernel_rfl) (by kernel_rfl) ?_
      simp only [List.take_succ_cons, List.take_zero, List.drop_succ_cons, List.drop_zero]
      repeat (first | still_step | still_call (Calls.same (mnan_any _)))
      refine wpStill_nil ?_
      change wpList _ _ _ _ _ w7.drew
      go_wp2_with fail
      have hnn : isN 9221120237041090561 = true := by decide
      have hF8 := (fs_set (q := 9221120237041090561) HBK7.out hcs (by omega) HCU.out (fun i _ => (fits_int (z i)).1) hjk (by omega)).kept (only_drew (only_refl (w7.setCell ⟨g, j, none⟩ (.float .f64 9221120237041090561)) none))
      have hG8 : w.grownBy ((w7.setCell ⟨g, j, none⟩ (.float .f64 9221120237041090561)).drew) none := only_drew (only_none (only_setCell (only_but HG7.out (some g)) (.inl rfl) _) hge)
      have hv1 : opV .quo (SV (fun i => av (upd1 (fun i => floatOfInt .f64 (z i)) j 9221120237041090561 i)) k) (some (floatOfInt .f64 (k : Int))) = none := by
        rw [SV_isN hjk (by unfold upd1; rw [if_pos rfl]; exact hnn)]; rfl
      have hv2 : mostV (upd1 (fun i => floatOfInt .f64 (z i)) j 9221120237041090561) k = none := by
        unfold mostV; rw [anyN_true hjk (by unfold upd1; rw [if_pos rfl]; exact hnn)]; rfl
      obtain ⟨w8, hw8⟩ : ∃ w8 : World, w8 = (w7.setCell ⟨g, j, none⟩ (.float .f64 9221120237041090561)).drew := ⟨_, rfl⟩
      rw [← hw8] at hF8 hG8
      rw [← hw8]
      have HF8 := Lib.hid hF8
      have HG8 := Lib.hid hG8
      have HV1 := Lib.hid hv1
      have HV2 := Lib.hid hv2
      clear hF8 hG8 hv1 hv2 hw8 HG7 HF7 HBK7 HCU hnn
      refine (mean_any _ _ _ _ _ HF8.out).mono ?_
      rintro e w9 ⟨r4, n4, rfl, hw9, hf4⟩
      rw [HV1.out] at hf4
      have hr4 : isN r4 = true := hf4.2
      have hd9 : w8.grownBy w9 none := by rw [hw9]; exact only_drewN (only_refl _ _) _
      have HF9 := Lib.hid (HF8.out.kept hd9)
      have HG9 := Lib.hid (only_trans HG8.out hd9)
      clear hd9 hw9 hf4
      go_wp2_with fail
      refine (isnan_any _ _).mono ?_
      rw [hr4]
      rintro e w10 ⟨rfl, rfl⟩
      clear hr4
      go_wp2_with fail
      refine (most_any _ _ _ _ _ HF9.out).mono ?_
      rintro e w10 ⟨r5, rfl, rfl, hf5⟩
      rw [HV2.out] at hf5
      have hr5 : isN r5 = true := hf5.2
      clear hf5
      go_wp2_with fail
      refine (isnan_any _ _).mono ?_
      rw [hr5]
      rintro e w10 ⟨rfl, rfl⟩
      clear hr5
      go_wp2_with fail
      refine (awake30_any _).mono ?_
      rintro e w11 ⟨rfl, hg11⟩
      go_wp2_with fail
      go_ret
      exact ⟨rfl, below_only (Below.refl _ _) (Nat.le_refl _) (only_trans HG9.out hg11) (by simp)⟩

theorem own : ownKnob Try.prog.godebug = none := by kernel_rfl
theorem laidOut : laidOutB Try.prog = true := by kernel_rfl

set_option maxRecDepth 100000 in
theorem lifted (os : Os) (started : os.Started) (H : Type) (enc : TypeId × Value → H) :
    ReturnsInHanded {} Try.checked os 4 .any (Rows.gaugeMeansSpec.pre6 enc Try.prog Try.f4 Rows.gaugeMeansRow.domain false) (Rows.gaugeMeansSpec.post enc Try.prog Try.f4 false true false false) := by
  refine returnsInHanded_of_change (C := Try.checked) own started (by kernel_rfl) Try.func4
    (ChangeSpec.witness6 (enc := enc) (C := Try.checked) false ⟨#[], #[.slice none 0 0, .int .u64 0, .int .u8 0], []⟩ 8 (by kernel_rfl) (by kernel_rfl) (by kernel_rfl) (by kernel_rfl)) ?_
  intro W base args ds gs before hval0 hW hcnd _
  have hval : ∀ (j : Nat) t v, Try.f4.params[j]? = some t → args[j]? = some v → Value.okWide Try.prog W .any base t v := hval0
  have hW' := hW
  obtain ⟨p, q, hA0, hV, rfl, hfz, hnd⟩ := hW
  have hA : DataW.TrodAll enc Try.prog W 0 (fun _ => true) true Try.f4.params.toList args.toList ds p := hA0
  rw [Try.params4] at hA hval
  obtain ⟨v0, vs0, d0, ds0, p0, q0, hargs, rfl, rfl, h0, r0⟩ := trodAll_cons hA
  obtain ⟨v1, vs1, d1, ds1, p1, q1, rfl, rfl, rfl, h1, r1⟩ := trodAll_cons r0
  obtain ⟨v2, vs2, d2, ds2, p2, q2, rfl, rfl, rfl, h2, r2⟩ := trodAll_cons r1
  obtain ⟨rfl, rfl, rfl⟩ := trodAll_nil r2
  obtain rfl : args = #[v0, v1, v2] := by cases args; simp_all
  obtain ⟨rfl, rfl⟩ := trodVars_none hV
  obtain ⟨a0, len0, cap0, rfl⟩ := okWide_slice Try.underlying34 (hval 0 34 v0 rfl rfl)
  have k0 := h0
  have lt0 : ∀ x ∈ p0, x.block < W.heap.size := by obtain ⟨m, hm⟩ := k0; exact DataW.trod_lt m _ _ _ hm
  obtain ⟨z0, w0⟩ : ∃ zs, IsRow .i16 W a0 len0 cap0 zs := by
    obtain ⟨fuel, hf⟩ := h0
    rcases open_ints Try.underlying34 Try.underlying37 (by kernel_rfl) hf with ⟨hcs, _⟩ | ⟨x, l, c, zs, hcs, _, hl, hm, hz, _, hcell, hwz⟩
    · simp [Value.cells] at hcs
      obtain ⟨rfl, rfl, rfl⟩ := hcs
      exact ⟨[], .inl ⟨rfl, rfl, rfl, rfl⟩⟩
    · simp [Value.cells] at hcs
      obtain ⟨rfl, rfl, rfl⟩ := hcs
      exact ⟨zs, .inr ⟨_, rfl, hl, hm, by simpa using hz, hcell, hwz⟩⟩
  obtain ⟨a1, rfl, rfl, rfl, w1⟩ := open_int Try.underlying23 (hval 1 23 v1 rfl rfl) h1
  obtain ⟨a2, rfl, rfl, rfl, w2⟩ := open_int Try.underlying5 (hval 2 5 v2 rfl rfl) h2
  clear hA0 hval0
  refine (walk a0 len0 cap0 z0 a1 a2 W w0 w1 w2).mono fun e W' ⟨he, bel⟩ => ?_
  subst he
  exact ⟨_, rfl, _, _, _, [], _, [], hW', trodAll_mk1 (shut_bool Try.underlying4 _), (trodAll_cons_mk (Below.trod laidOut (by kernel_rfl) (of_decide_eq_true (by kernel_rfl)) k0 bel lt0) (trodAll_cons_mk (shut_int Try.underlying23 w1) (trodAll_cons_mk (shut_int Try.underlying5 w2) trodAll_mk0))), rfl, bel.frame _, fun h => by cases h⟩

theorem over : Rows.gaugeMeansRow.holds Try.pinned (OpenSpec.ofChange Rows.gaugeMeansSpec) :=
  OpenClaim.holds_of_wide 4 Try.f4 rfl rfl rfl rfl rfl rfl rfl ⟨rfl, rfl, rfl, rfl, rfl⟩ rfl rfl rfl rfl rfl (by kernel_rfl) Try.func4 (by kernel_rfl)
    (of_decide_eq_true (by kernel_rfl)) (by unfold Func.isWrapper; first | (rw [if_pos (by decide +kernel)]; kernel_rfl) | (rw [if_neg (by decide +kernel)]; exact ⟨rfl, rfl⟩))
    (fun os started H enc _ => lifted os started H enc)

/-- The statement. -/
theorem proved : Rows.GaugeMeansSaid := over
#print axioms proved
end Go.Proofs.Ytpjefioopbnolaa.gaugeMeans
