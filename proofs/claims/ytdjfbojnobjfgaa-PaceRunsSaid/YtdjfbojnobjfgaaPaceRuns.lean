/- PaceRuns returns true at every input, and its arguments read as they did: no condition. -/
import Derived.Test.YtdjfbojnobjfgaaRows
import Derived.WalkKit
import Derived.ProofKit
import Derived.OpenShut
import Derived.ShutString
import Derived.ChangeOld
import Derived.Below
import Derived.WalkSpells
import Derived.WalkLawsBesides
import Derived.Handy
import Derived.Deep.QuietTactic
import Derived.BigQuiet
import Derived.Deep.RegionHeld3
import Derived.Deep.AppendLies
import Derived.Test.YtdjfbojnobjfgaaMem
import Derived.Test.YtdjfbojnobjfgaaView
import Derived.Test.YtdjfbojnobjfgaaPace
import Derived.Test.YtdjfbojnobjfgaaAw21
import Derived.Test.YtdjfbojnobjfgaaStruct
namespace Go.Proofs.Ytdjfbojnobjfgaa.paceRuns
open Go.ChangeShapes Go.WideShapes Go.ChangeAt Go.RowKit
open Go.ChangeMaps (open_string shut_string)
set_option linter.unusedVariables false

theorem enter_no_gr (g : Nat) (b m v s x n : Int) (w : World) (h : PaceIs w g 64 b m v s) (hx : x ≤ v ∨ 2305843009213693952 < x) :
    Calls Try.prog 21 #[.pointer (some ⟨g, 0, none⟩), .int .i64 x, .int .i64 n] w fun e w' => e = .returned (.bool false) ∧ PaceIs w' g 64 b m v s ∧ w.grownBy w' none :=
  (enter_no g b m v s x n w h hx).mono fun e w' ⟨he, hw⟩ => by subst hw; exact ⟨he, h, only_refl _ _⟩
theorem renter_no_gr (g : Nat) (b m v s x n : Int) (w : World) (h : PaceIs w g 48 b m v s) (hx : x ≤ v ∨ 2305843009213693952 < x) :
    Calls Try.prog 22 #[.pointer (some ⟨g, 0, none⟩), .int .i64 x, .int .i64 n] w fun e w' => e = .returned (.bool false) ∧ PaceIs w' g 48 b m v s ∧ w.grownBy w' none :=
  (renter_no g b m v s x n w h hx).mono fun e w' ⟨he, hw⟩ => by subst hw; exact ⟨he, h, only_refl _ _⟩
def RunsRel (B g1 g2 len : Nat) (b m : Int) (w : World) (i : Value) (wr : World) : Prop :=
  ∃ (k : Nat) (s v : Int), k ≤ len ∧ i = .int .i64 k ∧ PaceIs wr g1 64 b m v s ∧ PaceIs wr g2 48 b m v s ∧ Below B w wr ∧ g1 < wr.heap.size ∧ g2 < wr.heap.size

set_option maxRecDepth 100000 in
set_option maxHeartbeats 4000000 in
theorem walk (a0 a1 : Int) (a2 : Option Addr) (len2 cap2 : Nat) (z2 : Nat → Nat → Value) (a3 : Int) (w : World) (w0 : (Lit.int .i64 a0).wf = true) (w1 : (Lit.int .i64 a1).wf = true) (w2 : IsRecs w a2 len2 cap2 3 z2)
    (y2 : ∀ i, i < len2 → (∃ x, z2 i 0 = .int .i64 x ∧ (Lit.int .i64 x).wf = true) ∧ (∃ x, z2 i 1 = .int .i64 x ∧ (Lit.int .i64 x).wf = true) ∧ (∃ b, z2 i 2 = .bool b)) (w3 : (Lit.int .i64 a3).wf = true) :
    Calls Try.prog 6 #[.int .i64 a0, .int .i64 a1, .slice a2 len2 cap2, .int .i64 a3] w fun e w' => e = .returned (.bool true) ∧ Below w.heap.size w w' := by
  obtain ⟨hl, hc⟩ := w2
  have Hc := Lib.hid hc
  have Hy := Lib.hid y2
  clear hc y2 w0 w1 w3
  by_cases h60 : 60 < len2
  · go_enter Try.func6, Try.ntmps6
    go_wp2_with fail
    refine (awake21_any _).mono ?_
    rintro e w5 ⟨rfl, hg5⟩
    go_wp2_with fail
    go_ret
    exact ⟨rfl, below_only (Below.refl _ _) (Nat.le_refl _) hg5 (by simp)⟩
  · have h60' : len2 ≤ 60 := by omega
    clear h60
    by_cases hbad : a0 < 1 ∨ a1 < a0 ∨ 1000000 < a1
    · go_enter Try.func6, Try.ntmps6
      go_wp2_with (first | (go_at_call 19; refine (new_no _ _ _ hbad).mono ?_; rintro e w' ⟨rfl, rfl⟩) | (go_at_call 20; refine (rnew_no _ _ _ hbad).mono ?_; rintro e w' ⟨rfl, rfl⟩))
      refine (awake21_any _).mono ?_
      rintro e w5 ⟨rfl, hg5⟩
      go_wp2_with fail
      go_ret
      exact ⟨rfl, below_only (Below.refl _ _) (Nat.le_refl _) hg5 (by simp)⟩
    · have b1 : 1 ≤ a0 := by omega
      have b2 : a0 ≤ a1 := by omega
      have b3 : a1 ≤ 1000000 := by omega
      clear hbad
      go_enter Try.func6, Try.ntmps6
      go_wp2_with fail
      refine (new_own _ _ w b1 b2 b3).mono ?_
      rintro e w1 ⟨rfl, hp1, hg1, hs1⟩
      go_wp2_with fail
      refine (rnew_own _ _ w1 b1 b2 b3).mono ?_
      rintro e w2 ⟨rfl, hq1, hg2, hs2⟩
      have Hs : Hid (RunsRel w.heap.size w.heap.size w1.heap.size len2 a0 a1 w (.int .i64 0) w2) :=
        ⟨0, 0, 0, by omega, rfl, hp1.kept hg2 (by simp), hq1, below_only (below_only (Below.refl _ _) (Nat.le_refl _) hg1 (by simp)) (by omega) hg2 (by simp), by omega, by omega⟩
      clear hp1 hq1 hg1 hg2 hs2
      go_wp2_with fail
      go_loopw [11] (fun i wr => RunsRel w.heap.size w.heap.size w1.heap.size len2 a0 a1 w i wr) (fun i _ => len2 - (intOf i).toNat)
      case atStart => exact Hs.out
      case round =>
        clear Hs
        obtain ⟨k, s, v, hk, rfl, hp, hq, hb, hz1, hz2⟩ := hrel
        have Hp := Lib.hid hp
        have Hq := Lib.hid hq
        have Hb := Lib.hid hb
        clear hp hq hb
        by_cases hlt : k < len2
        · obtain ⟨b, off, ha, hblt, hcell⟩ := Hc.out (by omega)
          subst ha
          obtain ⟨⟨x0, e0, wx0⟩, ⟨x1, e1, wx1⟩, ⟨x2, e2⟩⟩ := Hy.out k hlt
          have c0 : wr.cell? ⟨b, off + (k * 3), none⟩ = some (.int .i64 x0) := by rw [Hb.out.cell (p := ⟨b, off + (k * 3), none⟩) hblt, ← e0]; exact hcell k hlt 0 (by omega)
          have c1 : wr.cell? ⟨b, off + (k * 3) + 1, none⟩ = some (.int .i64 x1) := by rw [Hb.out.cell (p := ⟨b, off + (k * 3) + 1, none⟩) hblt, ← e1]; exact hcell k hlt 1 (by omega)
          have c2 : wr.cell? ⟨b, off + (k * 3) + 2, none⟩ = some (.bool x2) := by rw [Hb.out.cell (p := ⟨b, off + (k * 3) + 2, none⟩) hblt, ← e2]; exact hcell k hlt 2 (by omega)
          have hi0 : (0 : Int) ≤ (k : Int) := by omega
          have hi1 : (k : Int) < (len2 : Int) := by omega
          clear hcell e0 e1 e2
          have Hc0 := Lib.hid c0
          clear c0
          have c0 := Hc0.out
          cases x2
          · go_wp2_with fail
            obtain ⟨W, HW⟩ : ∃ W, Hid (wr.alloc (.cells #[.int .i64 x0, .int .i64 x1, .bool false] 43) = W) := ⟨_, rfl⟩
            rw [HW.out]
            have HA : Hid (Blk W wr.heap.size 43 #[.int .i64 x0, .int .i64 x1, .bool false]) := by rw [← HW.out]; exact Blk.new _ _ _
            have Hg0 : Hid (wr.grownBy W none) := by rw [← HW.out]; exact World.grownBy_alloc _ _ _
            have Hp0 := Lib.hid (Hp.out.kept Hg0.out (by simp))
            have Hq0 := Lib.hid (Hq.out.kept Hg0.out (by simp))
            have Hb0 := Lib.hid (below_only Hb.out Hb.out.size Hg0.out (by simp))
            have sz0 := Hg0.out.size
            refine (progress_own _ _ _ _ _ _ _ Hp0.out).mono ?_
            rintro e w3 ⟨rfl, hp3, hg3⟩
            have HA3 := Lib.hid (HA.out.kept hg3 (by simp; omega))
            have Hq3 := Lib.hid (Hq0.out.kept hg3 (by simp; omega))
            have r1 : w3.cell? ⟨wr.heap.size, 1, none⟩ = some (.int .i64 x1) := HA3.out.cell 1
            go_wp2_with fail
            refine (rprogress_own _ _ _ _ _ _ _ Hq3.out).mono ?_
            rintro e w4 ⟨rfl, hq4, hg4⟩
            have HA4 := Lib.hid (HA3.out.kept hg4 (by simp; omega))
            have hp4 := hp3.kept hg4 (by simp; omega)
            have Hbel : Hid (Below w.heap.size w w4) := below_only (below_only Hb0.out (by omega) hg3 (by simp)) (by have := hg3.size; omega) hg4 (by simp; omega)
            have Hp9 := Lib.hid hp4
            have Hq9 := Lib.hid hq4
            have q1 : w4.cell? ⟨wr.heap.size, 1, none⟩ = some (.int .i64 x1) := HA4.out.cell 1
            have q2 : w4.cell? ⟨w1.heap.size, 2, none⟩ = some (.int .i64 v) := Hq9.out.1.cell 2
            clear hp4 hq4 hp3 hg3 hg4 r1
            go_wp2_with fail
            go_quiet ((first | (go_at_call 25; exact quiet_left (view_own _ _ _ _ _ _ Hp9.out)) | (go_at_call 26; exact Calls.quiet_of (left_own _ _ _ _ _ _ _ Hp9.out)) | (go_at_call 27; exact Calls.quiet_of (rleft_own _ _ _ _ _ _ _ Hq9.out)) | (go_at_call 28; exact Calls.quiet_of (due_own _ _ _ _ _ _ _ _ Hp9.out)) | (go_at_call 29; exact Calls.quiet_of (rdue_own _ _ _ _ _ _ _ _ Hq9.out))))
            have HN : Hid (RunsRel w.heap.size w.heap.size w1.heap.size len2 a0 a1 w (.int .i64 ((k : Int) + 1)) (w4.drewN nq)) := ⟨k + 1, (nearF x1), v, by omega, by go_num, Hp9.out, Hq9.out, below_drewN Hbel.out nq, Hp9.out.1.lt, Hq9.out.1.lt⟩
            go_wp2_with fail
            exact ⟨HN.out, by simp [intOf]; omega⟩
          · go_wp2_with fail
            obtain ⟨W, HW⟩ : ∃ W, Hid (wr.alloc (.cells #[.int .i64 x0, .int .i64 x1, .bool true] 43) = W) := ⟨_, rfl⟩
            rw [HW.out]
            have HA : Hid (Blk W wr.heap.size 43 #[.int .i64 x0, .int .i64 x1, .bool true]) := by rw [← HW.out]; exact Blk.new _ _ _
            have Hg0 : Hid (wr.grownBy W none) := by rw [← HW.out]; exact World.grownBy_alloc _ _ _
            have Hp0 := Lib.hid (Hp.out.kept Hg0.out (by simp))
            have Hq0 := Lib.hid (Hq.out.kept Hg0.out (by simp))
            have Hb0 := Lib.hid (below_only Hb.out Hb.out.size Hg0.out (by simp))
            have sz0 := Hg0.out.size
            have q0 : W.cell? ⟨wr.heap.size, 0, none⟩ = some (.int .i64 x0) := HA.out.cell 0
            have q1 : W.cell? ⟨wr.heap.size, 1, none⟩ = some (.int .i64 x1) := HA.out.cell 1
            by_cases hx : x0 ≤ v ∨ 2305843009213693952 < x0
            · go_region_held3 (fun w' => w'.cell? ⟨wr.heap.size, 0, none⟩ = some (.int .i64 x0) ∧ w'.cell? ⟨wr.heap.size, 1, none⟩ = some (.int .i64 x1))
                (first | assumption | go_keep)
                (first
                  | (go_at_call 21; refine (enter_no_gr w.heap.size a0 a1 v s _ _ _ ?_ hx).mono ?_; exact Hp0.out; rintro e w3 ⟨rfl, hp3, hg3⟩; have r0 := keep_new (b := wr.heap.size) (o := 0) (v := .int .i64 x0) hg3 q0; have r1 := keep_new (b := wr.heap.size) (o := 1) (v := .int .i64 x1) hg3 q1; have Hq3 := Lib.hid ((show PaceIs W.drew _ _ _ _ _ _ from Hq0.out).kept hg3 (by simp)))
                  | (go_at_call 22; refine (renter_no_gr w1.heap.size a0 a1 v s _ _ _ ?_ hx).mono ?_; exact Hq3.out; rintro e w4 ⟨rfl, hq4, hg4⟩; have t0 := keep_new (b := wr.heap.size) (o := 0) (v := .int .i64 x0) hg4 r0; have t1 := keep_new (b := wr.heap.size) (o := 1) (v := .int .i64 x1) hg4 r1))
              have Hbel : Hid (Below w.heap.size w w4) := below_only (below_only (below_drewN Hb0.out 1) (by have := Hb0.out.size; exact this) hg3 (by simp)) (by have h1 := hg3.size; have h2 := Hb0.out.size; simp at h1; omega) hg4 (by simp)
              have Hp9 : Hid (PaceIs w4 w.heap.size 64 a0 a1 v s) := hp3.kept hg4 (by simp)
              have Hq9 : Hid (PaceIs w4 w1.heap.size 48 a0 a1 v s) := hq4
              clear hp3 hq4 hg3 hg4 r0 r1 q0 q1 t0
              have q2 : w4.cell? ⟨w1.heap.size, 2, none⟩ = some (.int .i64 v) := Hq9.out.1.cell 2
              go_wp2_with fail
              go_quiet ((first | (go_at_call 25; exact quiet_left (view_own _ _ _ _ _ _ Hp9.out)) | (go_at_call 26; exact Calls.quiet_of (left_own _ _ _ _ _ _ _ Hp9.out)) | (go_at_call 27; exact Calls.quiet_of (rleft_own _ _ _ _ _ _ _ Hq9.out)) | (go_at_call 28; exact Calls.quiet_of (due_own _ _ _ _ _ _ _ _ Hp9.out)) | (go_at_call 29; exact Calls.quiet_of (rdue_own _ _ _ _ _ _ _ _ Hq9.out))))
              have HN : Hid (RunsRel w.heap.size w.heap.size w1.heap.size len2 a0 a1 w (.int .i64 ((k : Int) + 1)) (w4.drewN nq)) := ⟨k + 1, s, v, by omega, by go_num, Hp9.out, Hq9.out, below_drewN Hbel.out nq, Hp9.out.1.lt, Hq9.out.1.lt⟩
              go_wp2_with fail
              exact ⟨HN.out, by simp [intOf]; omega⟩
            · have hx1 : v < x0 := by omega
              have hx2 : x0 ≤ 2305843009213693952 := by omega
              clear hx
              go_region_held3 (fun w' => w'.cell? ⟨wr.heap.size, 0, none⟩ = some (.int .i64 x0) ∧ w'.cell? ⟨wr.heap.size, 1, none⟩ = some (.int .i64 x1))
                (first | assumption | exact ⟨r0, r1⟩ | exact ⟨t0, t1⟩ | go_keep)
                (first
                  | (go_at_call 21; refine (enter_yes w.heap.size a0 a1 v s _ _ _ ?_ hx1 hx2).mono ?_; exact Hp0.out; rintro e w3 ⟨rfl, hp3, hg3⟩; have r0 := keep_far (b := wr.heap.size) (o := 0) (v := .int .i64 x0) hg3 (by omega) q0; have r1 := keep_far (b := wr.heap.size) (o := 1) (v := .int .i64 x1) hg3 (by omega) q1; have Hq3 := Lib.hid ((show PaceIs W.drew _ _ _ _ _ _ from Hq0.out).kept hg3 (by simp; omega)))
                  | (go_at_call 22; refine (renter_yes w1.heap.size a0 a1 v s _ _ _ ?_ hx1 hx2).mono ?_; exact Hq3.out; rintro e w4 ⟨rfl, hq4, hg4⟩; have t0 := keep_far (b := wr.heap.size) (o := 0) (v := .int .i64 x0) hg4 (by omega) r0; have t1 := keep_far (b := wr.heap.size) (o := 1) (v := .int .i64 x1) hg4 (by omega) r1))
              have Hbel : Hid (Below w.heap.size w w4) := below_only (below_only (below_drewN Hb0.out 1) (by have := Hb0.out.size; exact this) hg3 (by simp)) (by have h1 := hg3.size; have h2 := Hb0.out.size; simp at h1; omega) hg4 (by simp; omega)
              have Hp9 : Hid (PaceIs w4 w.heap.size 64 a0 a1 x0 (nearF x1)) := hp3.kept hg4 (by simp; omega)
              have Hq9 : Hid (PaceIs w4 w1.heap.size 48 a0 a1 x0 (nearF x1)) := hq4
              clear hp3 hq4 hg3 hg4 r0 r1 q0 q1 t0
              have q2 : w4.cell? ⟨w1.heap.size, 2, none⟩ = some (.int .i64 x0) := Hq9.out.1.cell 2
              go_wp2_with fail
              go_quiet ((first | (go_at_call 25; exact quiet_left (view_own _ _ _ _ _ _ Hp9.out)) | (go_at_call 26; exact Calls.quiet_of (left_own _ _ _ _ _ _ _ Hp9.out)) | (go_at_call 27; exact Calls.quiet_of (rleft_own _ _ _ _ _ _ _ Hq9.out)) | (go_at_call 28; exact Calls.quiet_of (due_own _ _ _ _ _ _ _ _ Hp9.out)) | (go_at_call 29; exact Calls.quiet_of (rdue_own _ _ _ _ _ _ _ _ Hq9.out))))
              have HN : Hid (RunsRel w.heap.size w.heap.size w1.heap.size len2 a0 a1 w (.int .i64 ((k : Int) + 1)) (w4.drewN nq)) := ⟨k + 1, (nearF x1), x0, by omega, by go_num, Hp9.out, Hq9.out, below_drewN Hbel.out nq, Hp9.out.1.lt, Hq9.out.1.lt⟩
              go_wp2_with fail
              exact ⟨HN.out, by simp [intOf]; omega⟩
        · go_wp2_with fail
          refine (awake21_any _).mono ?_
          rintro e w6 ⟨rfl, hg6⟩
          go_wp2_with fail
          go_ret
          exact ⟨rfl, below_only Hb.out (by omega) hg6 (by simp)⟩

theorem own : ownKnob Try.prog.godebug = none := by kernel_rfl
theorem laidOut : laidOutB Try.prog = true := by kernel_rfl

set_option maxRecDepth 100000 in
theorem lifted (os : Os) (started : os.Started) (H : Type) (enc : TypeId × Value → H) :
    ReturnsInHanded {} Try.checked os 6 .any (Rows.paceRunsSpec.pre6 enc Try.prog Try.f6 Rows.paceRunsRow.domain false) (Rows.paceRunsSpec.post enc Try.prog Try.f6 false true false false) := by
  refine returnsInHanded_of_change (C := Try.checked) own started (by kernel_rfl) Try.func6
    (ChangeSpec.witness6 (enc := enc) (C := Try.checked) false ⟨#[], #[.int .i64 0, .int .i64 0, .slice none 0 0, .int .i64 0], []⟩ 8 (by kernel_rfl) (by kernel_rfl) (by kernel_rfl) (by kernel_rfl)) ?_
  intro W base args ds gs before hval0 hW hcnd _
  have hval : ∀ (j : Nat) t v, Try.f6.params[j]? = some t → args[j]? = some v → Value.okWide Try.prog W .any base t v := hval0
  have hW' := hW
  obtain ⟨p, q, hA0, hV, rfl, hfz, hnd⟩ := hW
  have hA : DataW.TrodAll enc Try.prog W 0 (fun _ => true) true Try.f6.params.toList args.toList ds p := hA0
  rw [Try.params6] at hA hval
  obtain ⟨v0, vs0, d0, ds0, p0, q0, hargs, rfl, rfl, h0, r0⟩ := trodAll_cons hA
  obtain ⟨v1, vs1, d1, ds1, p1, q1, rfl, rfl, rfl, h1, r1⟩ := trodAll_cons r0
  obtain ⟨v2, vs2, d2, ds2, p2, q2, rfl, rfl, rfl, h2, r2⟩ := trodAll_cons r1
  obtain ⟨v3, vs3, d3, ds3, p3, q3, rfl, rfl, rfl, h3, r3⟩ := trodAll_cons r2
  obtain ⟨rfl, rfl, rfl⟩ := trodAll_nil r3
  obtain rfl : args = #[v0, v1, v2, v3] := by cases args; simp_all
  obtain ⟨rfl, rfl⟩ := trodVars_none hV
  obtain ⟨a0, rfl, rfl, rfl, w0⟩ := open_int Try.underlying3 (hval 0 3 v0 rfl rfl) h0
  obtain ⟨a1, rfl, rfl, rfl, w1⟩ := open_int Try.underlying3 (hval 1 3 v1 rfl rfl) h1
  obtain ⟨a2, len2, cap2, rfl⟩ := okWide_slice Try.underlying37 (hval 2 37 v2 rfl rfl)
  have k2 := h2
  have lt2 : ∀ x ∈ p2, x.block < W.heap.size := by obtain ⟨m, hm⟩ := k2; exact DataW.trod_lt m _ _ _ hm
  obtain ⟨z2, w2, x2⟩ := recs_open Try.underlying37 Try.underlying43 (by kernel_rfl) (by kernel_rfl) (of_decide_eq_true (by kernel_rfl)) h2
  have y2 : ∀ i, i < len2 → (∃ x, z2 i 0 = .int .i64 x ∧ (Lit.int .i64 x).wf = true) ∧ (∃ x, z2 i 1 = .int .i64 x ∧ (Lit.int .i64 x).wf = true) ∧ (∃ b, z2 i 2 = .bool b) := fun i hi => ⟨(x2 i hi 0 (of_decide_eq_true (by kernel_rfl)) _ rfl).2 .i64 Try.underlying3, (x2 i hi 1 (of_decide_eq_true (by kernel_rfl)) _ rfl).2 .i64 Try.underlying3, (x2 i hi 2 (of_decide_eq_true (by kernel_rfl)) _ rfl).1 Try.underlying4⟩
  obtain ⟨a3, rfl, rfl, rfl, w3⟩ := open_int Try.underlying3 (hval 3 3 v3 rfl rfl) h3
  clear hA0 hval0
  refine (walk a0 a1 a2 len2 cap2 z2 a3 W w0 w1 w2 y2 w3).mono fun e W' ⟨he, bel⟩ => ?_
  subst he
  exact ⟨_, rfl, _, _, _, [], _, [], hW', trodAll_mk1 (shut_bool Try.underlying4 _), (trodAll_cons_mk (shut_int Try.underlying3 w0) (trodAll_cons_mk (shut_int Try.underlying3 w1) (trodAll_cons_mk (Below.trod laidOut (by kernel_rfl) (of_decide_eq_true (by kernel_rfl)) k2 bel lt2) (trodAll_cons_mk (shut_int Try.underlying3 w3) trodAll_mk0)))), rfl, bel.frame _, fun h => by cases h⟩

theorem over : Rows.paceRunsRow.holds Try.pinned (OpenSpec.ofChange Rows.paceRunsSpec) :=
  OpenClaim.holds_of_wide 6 Try.f6 rfl rfl rfl rfl rfl rfl rfl ⟨rfl, rfl, rfl, rfl, rfl⟩ rfl rfl rfl rfl rfl (by kernel_rfl) Try.func6 (by kernel_rfl)
    (of_decide_eq_true (by kernel_rfl)) (by unfold Func.isWrapper; first | (rw [if_pos (by decide +kernel)]; kernel_rfl) | (rw [if_neg (by decide +kernel)]; exact ⟨rfl, rfl⟩))
    (fun os started H enc _ => lifted os started H enc)

/-- The statement. -/
theorem proved : Rows.PaceRunsSaid := over
#print axioms proved
end Go.Proofs.Ytdjfbojnobjfgaa.paceRuns
