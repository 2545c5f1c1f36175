/- ViewAll returns true at every input, and its arguments read as they did: no condition. -/
import Derived.Test.YtdjfbojnobjfgaaRows
import Derived.WalkKit
import Derived.ProofKit
import Derived.OpenShut
import Derived.ShutString
import Derived.ChangeOld
import Derived.Below
import Derived.WalkSpells
import Derived.WalkLawsBesides
import Derived.Handy
import Derived.Deep.QuietTactic
import Derived.BigQuiet
import Derived.Deep.RegionHeld3
import Derived.Deep.AppendLies
import Derived.Test.YtdjfbojnobjfgaaMem
import Derived.Test.YtdjfbojnobjfgaaView
import Derived.Test.YtdjfbojnobjfgaaConf
import Derived.Test.YtdjfbojnobjfgaaAw13
import Derived.Test.YtdjfbojnobjfgaaStruct
namespace Go.Proofs.Ytdjfbojnobjfgaa.viewAll
open Go.ChangeShapes Go.WideShapes Go.ChangeAt Go.RowKit
open Go.ChangeMaps (open_string shut_string)
set_option linter.unusedVariables false

theorem reach_both (b m need : Int) : ∃ (R : Int) (B : Bool),
    (∀ w : World, Calls Try.prog 31 #[.int .i64 b, .int .i64 m, .int .i64 need] w fun e w' => e = .returned (.tuple #[.int .i64 R, .bool B]) ∧ w = w') ∧
    (∀ w : World, Calls Try.prog 32 #[.int .i64 b, .int .i64 m, .int .i64 need] w fun e w' => e = .returned (.tuple #[.int .i64 R, .bool B]) ∧ w = w') := by
  by_cases h : b < 1 ∨ m < b ∨ 1000000 < m ∨ m < need
  · exact ⟨0, false, fun w => reach_no b m need w h, fun w => rreach_no b m need w h⟩
  · exact ⟨reachF b m need, true, fun w => reach_yes b m need w (by omega) (by omega) (by omega) (by omega), fun w => rreach_yes b m need w (by omega) (by omega) (by omega) (by omega)⟩
set_option maxRecDepth 100000 in
set_option maxHeartbeats 2000000 in
theorem walk (a0 a1 a2 a3 a4 a5 : Int) (c0 c1 c2 c3 c4 c5 c6 c7 c8 c9 c10 : Int) (w : World) (w0 : (Lit.int .i64 a0).wf = true) (w1 : (Lit.int .i64 a1).wf = true) (w2 : (Lit.int .i64 a2).wf = true) (w3 : (Lit.int .i64 a3).wf = true) (w4 : (Lit.int .i64 a4).wf = true) (w5 : (Lit.int .i64 a5).wf = true)
    (v0 : (Lit.int .i64 c0).wf = true) (v1 : (Lit.int .i64 c1).wf = true) (v2 : (Lit.int .i64 c2).wf = true) (v3 : (Lit.int .i64 c3).wf = true) (v4 : (Lit.int .i64 c4).wf = true) (v5 : (Lit.int .i64 c5).wf = true) (v6 : (Lit.int .i64 c6).wf = true) (v7 : (Lit.int .i64 c7).wf = true) (v8 : (Lit.int .i64 c8).wf = true) (v9 : (Lit.int .i64 c9).wf = true) (v10 : (Lit.int .i64 c10).wf = true) :
    Calls Try.prog 10 #[.int .i64 a0, .int .i64 a1, .int .i64 a2, .int .i64 a3, .int .i64 a4, .int .i64 a5, .agg #[.int .i64 c0, .int .i64 c1, .int .i64 c2, .int .i64 c3, .int .i64 c4, .int .i64 c5, .int .i64 c6, .int .i64 c7, .int .i64 c8, .int .i64 c9, .int .i64 c10]] w fun e w' => e = .returned (.bool true) ∧ Below w.heap.size w w' := by
  clear w0 w1 w2 w3 w4 w5 v0 v1 v2 v3 v4 v5 v6 v7 v8 v9 v10
  obtain ⟨R, B, h1, h2⟩ := reach_both a3 a4 a5
  have H1 := Lib.hid h1
  have H2 := Lib.hid h2
  clear h1 h2
  go_enter Try.func10, Try.ntmps10
  go_wp2_with (first | (go_at_call 31; refine (H1.out _).mono ?_; rintro e w' ⟨rfl, rfl⟩) | (go_at_call 32; refine (H2.out _).mono ?_; rintro e w' ⟨rfl, rfl⟩))
  obtain ⟨W, HW⟩ : ∃ W, Hid (w.alloc (.cells #[.int .i64 c0, .int .i64 c1, .int .i64 c2, .int .i64 c3, .int .i64 c4, .int .i64 c5, .int .i64 c6, .int .i64 c7, .int .i64 c8, .int .i64 c9, .int .i64 c10] 33) = W) := ⟨_, rfl⟩
  rw [HW.out]
  have hblk : Blk W w.heap.size 33 #[.int .i64 c0, .int .i64 c1, .int .i64 c2, .int .i64 c3, .int .i64 c4, .int .i64 c5, .int .i64 c6, .int .i64 c7, .int .i64 c8, .int .i64 c9, .int .i64 c10] := by rw [← HW.out]; exact Blk.new _ _ _
  have hbel : Below w.heap.size w W := by rw [← HW.out]; exact (Below.refl _ _).alloc (Nat.le_refl _) _
  have Hbel := Lib.hid hbel
  have q0 : W.cell? ⟨w.heap.size, 0, none⟩ = some (.int .i64 c0) := hblk.cell 0
  have q1 : W.cell? ⟨w.heap.size, 1, none⟩ = some (.int .i64 c1) := hblk.cell 1
  have q2 : W.cell? ⟨w.heap.size, 2, none⟩ = some (.int .i64 c2) := hblk.cell 2
  have q3 : W.cell? ⟨w.heap.size, 3, none⟩ = some (.int .i64 c3) := hblk.cell 3
  have q4 : W.cell? ⟨w.heap.size, 4, none⟩ = some (.int .i64 c4) := hblk.cell 4
  have q5 : W.cell? ⟨w.heap.size, 5, none⟩ = some (.int .i64 c5) := hblk.cell 5
  have q6 : W.cell? ⟨w.heap.size, 6, none⟩ = some (.int .i64 c6) := hblk.cell 6
  have q7 : W.cell? ⟨w.heap.size, 7, none⟩ = some (.int .i64 c7) := hblk.cell 7
  have q8 : W.cell? ⟨w.heap.size, 8, none⟩ = some (.int .i64 c8) := hblk.cell 8
  have q9 : W.cell? ⟨w.heap.size, 9, none⟩ = some (.int .i64 c9) := hblk.cell 9
  have q10 : W.cell? ⟨w.heap.size, 10, none⟩ = some (.int .i64 c10) := hblk.cell 10
  clear hblk hbel
  go_region_held3 (fun w' => w'.cell? ⟨w.heap.size, 0, none⟩ = some (.int .i64 c0) ∧ w'.cell? ⟨w.heap.size, 1, none⟩ = some (.int .i64 c1) ∧ w'.cell? ⟨w.heap.size, 2, none⟩ = some (.int .i64 c2) ∧ w'.cell? ⟨w.heap.size, 3, none⟩ = some (.int .i64 c3) ∧ w'.cell? ⟨w.heap.size, 4, none⟩ = some (.int .i64 c4) ∧ w'.cell? ⟨w.heap.size, 5, none⟩ = some (.int .i64 c5) ∧ w'.cell? ⟨w.heap.size, 6, none⟩ = some (.int .i64 c6) ∧ w'.cell? ⟨w.heap.size, 7, none⟩ = some (.int .i64 c7) ∧ w'.cell? ⟨w.heap.size, 8, none⟩ = some (.int .i64 c8) ∧ w'.cell? ⟨w.heap.size, 9, none⟩ = some (.int .i64 c9) ∧ w'.cell? ⟨w.heap.size, 10, none⟩ = some (.int .i64 c10))
    (first | assumption | exact ⟨p0, p1, p2, p3, p4, p5, p6, p7, p8, p9, p10⟩ | go_keep)
    (first
      | (go_at_call 12; refine (quorum_any _ _).mono ?_; rintro e w' ⟨rfl, rfl⟩)
      | (go_at_call 33; refine (rquorum_any _ _).mono ?_; rintro e w' ⟨rfl, rfl⟩)
      | (go_at_call 14; refine (leader_any _ _ _).mono ?_; rintro e w' ⟨rfl, rfl⟩)
      | (go_at_call 34; refine (rleader_any _ _ _).mono ?_; rintro e w' ⟨rfl, rfl⟩)
      | (go_at_call 15; refine (led_any _ _ _ _).mono ?_; rintro e w' ⟨rfl, rfl⟩)
      | (go_at_call 35; refine (rled_any _ _ _ _).mono ?_; rintro e w' ⟨rfl, rfl⟩)
      | (go_at_call 30; refine (timeout_any _ _ _ _).mono ?_; rintro e w' ⟨rfl, rfl⟩)
      | (go_at_call 36; refine (rtimeout_any _ _ _ _).mono ?_; rintro e w' ⟨rfl, rfl⟩)
      | (go_at_call 17; refine (mayconf_own _ _ _ _ _ _ _ _ _ _ _ _).mono ?_; rintro e w1 ⟨rfl, hg1⟩; have p0 : w1.cell? ⟨w.heap.size, 0, none⟩ = some (.int .i64 c0) := keep_new hg1 q0; have p1 : w1.cell? ⟨w.heap.size, 1, none⟩ = some (.int .i64 c1) := keep_new hg1 q1; have p2 : w1.cell? ⟨w.heap.size, 2, none⟩ = some (.int .i64 c2) := keep_new hg1 q2; have p3 : w1.cell? ⟨w.heap.size, 3, none⟩ = some (.int .i64 c3) := keep_new hg1 q3; have p4 : w1.cell? ⟨w.heap.size, 4, none⟩ = some (.int .i64 c4) := keep_new hg1 q4; have p5 : w1.cell? ⟨w.heap.size, 5, none⟩ = some (.int .i64 c5) := keep_new hg1 q5; have p6 : w1.cell? ⟨w.heap.size, 6, none⟩ = some (.int .i64 c6) := keep_new hg1 q6; have p7 : w1.cell? ⟨w.heap.size, 7, none⟩ = some (.int .i64 c7) := keep_new hg1 q7; have p8 : w1.cell? ⟨w.heap.size, 8, none⟩ = some (.int .i64 c8) := keep_new hg1 q8; have p9 : w1.cell? ⟨w.heap.size, 9, none⟩ = some (.int .i64 c9) := keep_new hg1 q9; have p10 : w1.cell? ⟨w.heap.size, 10, none⟩ = some (.int .i64 c10) := keep_new hg1 q10)
      | (go_at_call 37; refine (rmayconf_own _ _ _ _ _ _ _ _ _ _ _ _).mono ?_; rintro e w2 ⟨rfl, hg2⟩; have r0 : w2.cell? ⟨w.heap.size, 0, none⟩ = some (.int .i64 c0) := keep_new hg2 p0; have r1 : w2.cell? ⟨w.heap.size, 1, none⟩ = some (.int .i64 c1) := keep_new hg2 p1; have r2 : w2.cell? ⟨w.heap.size, 2, none⟩ = some (.int .i64 c2) := keep_new hg2 p2; have r3 : w2.cell? ⟨w.heap.size, 3, none⟩ = some (.int .i64 c3) := keep_new hg2 p3; have r4 : w2.cell? ⟨w.heap.size, 4, none⟩ = some (.int .i64 c4) := keep_new hg2 p4; have r5 : w2.cell? ⟨w.heap.size, 5, none⟩ = some (.int .i64 c5) := keep_new hg2 p5; have r6 : w2.cell? ⟨w.heap.size, 6, none⟩ = some (.int .i64 c6) := keep_new hg2 p6; have r7 : w2.cell? ⟨w.heap.size, 7, none⟩ = some (.int .i64 c7) := keep_new hg2 p7; have r8 : w2.cell? ⟨w.heap.size, 8, none⟩ = some (.int .i64 c8) := keep_new hg2 p8; have r9 : w2.cell? ⟨w.heap.size, 9, none⟩ = some (.int .i64 c9) := keep_new hg2 p9; have r10 : w2.cell? ⟨w.heap.size, 10, none⟩ = some (.int .i64 c10) := keep_new hg2 p10)
      | (go_at_call 13; refine (awake13_any _).mono ?_; rintro e w3 ⟨rfl, hg3⟩; have s0 : w3.cell? ⟨w.heap.size, 0, none⟩ = some (.int .i64 c0) := keep_new hg3 r0; have s1 : w3.cell? ⟨w.heap.size, 1, none⟩ = some (.int .i64 c1) := keep_new hg3 r1; have s2 : w3.cell? ⟨w.heap.size, 2, none⟩ = some (.int .i64 c2) := keep_new hg3 r2; have s3 : w3.cell? ⟨w.heap.size, 3, none⟩ = some (.int .i64 c3) := keep_new hg3 r3; have s4 : w3.cell? ⟨w.heap.size, 4, none⟩ = some (.int .i64 c4) := keep_new hg3 r4; have s5 : w3.cell? ⟨w.heap.size, 5, none⟩ = some (.int .i64 c5) := keep_new hg3 r5; have s6 : w3.cell? ⟨w.heap.size, 6, none⟩ = some (.int .i64 c6) := keep_new hg3 r6; have s7 : w3.cell? ⟨w.heap.size, 7, none⟩ = some (.int .i64 c7) := keep_new hg3 r7; have s8 : w3.cell? ⟨w.heap.size, 8, none⟩ = some (.int .i64 c8) := keep_new hg3 r8; have s9 : w3.cell? ⟨w.heap.size, 9, none⟩ = some (.int .i64 c9) := keep_new hg3 r9; have s10 : w3.cell? ⟨w.heap.size, 10, none⟩ = some (.int .i64 c10) := keep_new hg3 r10))
  have hall : Below w.heap.size w w3 := below_only (below_only (below_only (below_drewN Hbel.out 1) Hbel.out.size hg1 (by simp)) (by have := Hbel.out.size; have := hg1.size; simp at *; omega) hg2 (by simp)) (by have := Hbel.out.size; have := hg1.size; have := hg2.size; simp at *; omega) hg3 (by simp)
  have Hall := Lib.hid hall
  clear hall hg1 hg2 hg3 Hbel
  go_wp2_with fail
  go_ret
  exact ⟨rfl, Hall.out⟩

theorem own : ownKnob Try.prog.godebug = none := by kernel_rfl
theorem laidOut : laidOutB Try.prog = true := by kernel_rfl

set_option maxRecDepth 100000 in
theorem lifted (os : Os) (started : os.Started) (H : Type) (enc : TypeId × Value → H) :
    ReturnsInHanded {} Try.checked os 10 .any (Rows.viewAllSpec.pre6 enc Try.prog Try.f10 Rows.viewAllRow.domain false) (Rows.viewAllSpec.post enc Try.prog Try.f10 false true false false) := by
  refine returnsInHanded_of_change (C := Try.checked) own started (by kernel_rfl) Try.func10
    (ChangeSpec.witness6 (enc := enc) (C := Try.checked) false ⟨#[], #[.int .i64 0, .int .i64 0, .int .i64 0, .int .i64 0, .int .i64 0, .int .i64 0, .agg #[.int .i64 0, .int .i64 0, .int .i64 0, .int .i64 0, .int .i64 0, .int .i64 0, .int .i64 0, .int .i64 0, .int .i64 0, .int .i64 0, .int .i64 0]], []⟩ 8 (by kernel_rfl) (by kernel_rfl) (by kernel_rfl) (by kernel_rfl)) ?_
  intro W base args ds gs before hval0 hW hcnd _
  have hval : ∀ (j : Nat) t v, Try.f10.params[j]? = some t → args[j]? = some v → Value.okWide Try.prog W .any base t v := hval0
  have hW' := hW
  obtain ⟨p, q, hA0, hV, rfl, hfz, hnd⟩ := hW
  have hA : DataW.TrodAll enc Try.prog W 0 (fun _ => true) true Try.f10.params.toList args.toList ds p := hA0
  rw [Try.params10] at hA hval
  obtain ⟨v0, vs0, d0, ds0, p0, q0, hargs, rfl, rfl, h0, r0⟩ := trodAll_cons hA
  obtain ⟨v1, vs1, d1, ds1, p1, q1, rfl, rfl, rfl, h1, r1⟩ := trodAll_cons r0
  obtain ⟨v2, vs2, d2, ds2, p2, q2, rfl, rfl, rfl, h2, r2⟩ := trodAll_cons r1
  obtain ⟨v3, vs3, d3, ds3, p3, q3, rfl, rfl, rfl, h3, r3⟩ := trodAll_cons r2
  obtain ⟨v4, vs4, d4, ds4, p4, q4, rfl, rfl, rfl, h4, r4⟩ := trodAll_cons r3
  obtain ⟨v5, vs5, d5, ds5, p5, q5, rfl, rfl, rfl, h5, r5⟩ := trodAll_cons r4
  obtain ⟨v6, vs6, d6, ds6, p6, q6, rfl, rfl, rfl, h6, r6⟩ := trodAll_cons r5
  obtain ⟨rfl, rfl, rfl⟩ := trodAll_nil r6
  obtain rfl : args = #[v0, v1, v2, v3, v4, v5, v6] := by cases args; simp_all
  obtain ⟨rfl, rfl⟩ := trodVars_none hV
  obtain ⟨a0, rfl, rfl, rfl, w0⟩ := open_int Try.underlying3 (hval 0 3 v0 rfl rfl) h0
  obtain ⟨a1, rfl, rfl, rfl, w1⟩ := open_int Try.underlying3 (hval 1 3 v1 rfl rfl) h1
  obtain ⟨a2, rfl, rfl, rfl, w2⟩ := open_int Try.underlying3 (hval 2 3 v2 rfl rfl) h2
  obtain ⟨a3, rfl, rfl, rfl, w3⟩ := open_int Try.underlying3 (hval 3 3 v3 rfl rfl) h3
  obtain ⟨a4, rfl, rfl, rfl, w4⟩ := open_int Try.underlying3 (hval 4 3 v4 rfl rfl) h4
  obtain ⟨a5, rfl, rfl, rfl, w5⟩ := open_int Try.underlying3 (hval 5 3 v5 rfl rfl) h5
  have k6 := h6
  have lt6 : ∀ x ∈ p6, x.block < W.heap.size := by obtain ⟨m, hm⟩ := k6; exact DataW.trod_lt m _ _ _ hm
  obtain ⟨a6_0, a6_1, a6_2, a6_3, a6_4, a6_5, a6_6, a6_7, a6_8, a6_9, a6_10, rfl, w6_0, w6_1, w6_2, w6_3, w6_4, w6_5, w6_6, w6_7, w6_8, w6_9, w6_10⟩ := open_ints11 (ti := 3) Try.underlying33 (by kernel_rfl) (by kernel_rfl) (by kernel_rfl) (by kernel_rfl) Try.underlying3 (hval 6 33 v6 rfl rfl) h6
  clear hA0 hval0
  refine (walk a0 a1 a2 a3 a4 a5 a6_0 a6_1 a6_2 a6_3 a6_4 a6_5 a6_6 a6_7 a6_8 a6_9 a6_10 W w0 w1 w2 w3 w4 w5 w6_0 w6_1 w6_2 w6_3 w6_4 w6_5 w6_6 w6_7 w6_8 w6_9 w6_10).mono fun e W' ⟨he, bel⟩ => ?_
  subst he
  exact ⟨_, rfl, _, _, _, [], _, [], hW', trodAll_mk1 (shut_bool Try.underlying4 _), (trodAll_cons_mk (shut_int Try.underlying3 w0) (trodAll_cons_mk (shut_int Try.underlying3 w1) (trodAll_cons_mk (shut_int Try.underlying3 w2) (trodAll_cons_mk (shut_int Try.underlying3 w3) (trodAll_cons_mk (shut_int Try.underlying3 w4) (trodAll_cons_mk (shut_int Try.underlying3 w5) (trodAll_cons_mk (Below.trod laidOut (by kernel_rfl) (of_decide_eq_true (by kernel_rfl)) k6 bel lt6) trodAll_mk0))))))), rfl, bel.frame _, fun h => by cases h⟩

theorem over : Rows.viewAllRow.holds Try.pinned (OpenSpec.ofChange Rows.viewAllSpec) :=
  OpenClaim.holds_of_wide 10 Try.f10 rfl rfl rfl rfl rfl rfl rfl ⟨rfl, rfl, rfl, rfl, rfl⟩ rfl rfl rfl rfl rfl (by kernel_rfl) Try.func10 (by kernel_rfl)
    (of_decide_eq_true (by kernel_rfl)) (by unfold Func.isWrapper; first | (rw [if_pos (by decide +kernel)]; kernel_rfl) | (rw [if_neg (by decide +kernel)]; exact ⟨rfl, rfl⟩))
    (fun os started H enc _ => lifted os started H enc)

/-- The statement. -/
theorem proved : Rows.ViewAllSaid := over
#print axioms proved
end Go.Proofs.Ytdjfbojnobjfgaa.viewAll
