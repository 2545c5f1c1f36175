/- PaceViews returns true at every input, and its arguments read as they did: no condition. -/
import Derived.Test.YtdjfbojnobjfgaaRows
import Derived.WalkKit
import Derived.ProofKit
import Derived.OpenShut
import Derived.ShutString
import Derived.ChangeOld
import Derived.Below
import Derived.WalkSpells
import Derived.WalkLawsBesides
import Derived.Handy
import Derived.Test.YtdjfbojnobjfgaaMem
import Derived.Test.YtdjfbojnobjfgaaView
import Derived.Test.YtdjfbojnobjfgaaPace
import Derived.Test.YtdjfbojnobjfgaaAw21
import Derived.Test.YtdjfbojnobjfgaaStruct
namespace Go.Proofs.Ytdjfbojnobjfgaa.paceViews
open Go.ChangeShapes Go.WideShapes Go.ChangeAt Go.RowKit
open Go.ChangeMaps (open_string shut_string)
set_option linter.unusedVariables false

theorem near_in (n : Int) (h0 : 0 ≤ n) (h1 : n ≤ 2305843009213693952) : nearF n = n := by unfold nearF; omega
theorem left_at (b m v s n : Int) (hs : 0 ≤ s) (hn : s ≤ n) (h1 : n ≤ 2305843009213693952) : leftF b m v s n = if timeoutF b m v < n - s then 0 else timeoutF b m v - (n - s) := by
  unfold leftF; rw [near_in n (by omega) h1]; omega
def ViewsRel (B len : Nat) (b m : Int) (w : World) (i n_ s_ v_ : Value) (wr : World) : Prop :=
  ∃ (k : Nat) (n s v : Int), k ≤ len ∧ i = .int .i64 k ∧ n_ = .int .i64 n ∧ s_ = .int .i64 s ∧ v_ = .int .i64 v ∧ 0 ≤ s ∧ s ≤ n ∧ n ≤ 255 * k ∧ 0 ≤ v ∧ v ≤ k ∧ PaceIs wr B 64 b m v s ∧ Below B w wr ∧ B < wr.heap.size

set_option maxRecDepth 100000 in
set_option maxHeartbeats 8000000 in
theorem walk (a0 a1 : Int) (a2 : Option Addr) (len2 cap2 : Nat) (z2 : List Int) (a3 : Option Addr) (len3 cap3 : Nat) (z3 : Nat → Bool) (w : World) (w0 : (Lit.int .u8 a0).wf = true) (w1 : (Lit.int .u8 a1).wf = true) (w2 : IsRow .u8 w a2 len2 cap2 z2) (w3 : IsBools w a3 len3 cap3 z3) :
    Calls Try.prog 7 #[.int .u8 a0, .int .u8 a1, .slice a2 len2 cap2, .slice a3 len3 cap3] w fun e w' => e = .returned (.bool true) ∧ Below w.heap.size w w' := by
  have h0 := bounds_u8 w0
  have h1 := bounds_u8 w1
  obtain ⟨hl, hwz, hc⟩ := w2.at
  obtain ⟨hl3, hc3⟩ := w3
  clear w0 w1 w2
  have Hc := Lib.hid hc
  have Hwz := Lib.hid hwz
  have Hc3 := Lib.hid hc3
  clear hc hwz hc3
  by_cases h60 : 60 < len2
  · go_enter Try.func7, Try.ntmps7
    go_wp2_with fail
    refine (new_own _ _ w (by omega) (by omega) (by omega)).mono ?_
    rintro e w1 ⟨rfl, hp1, hg1, hs1⟩
    go_wp2_with fail
    refine (awake21_any _).mono ?_
    rintro e w5 ⟨rfl, hg5⟩
    go_wp2_with fail
    go_ret
    exact ⟨rfl, below_only (below_only (Below.refl _ _) (Nat.le_refl _) hg1 (by simp)) (by omega) hg5 (by simp)⟩
  · have h60' : len2 ≤ 60 := by omega
    clear h60
    by_cases hsh : len3 < len2
    · go_enter Try.func7, Try.ntmps7
      go_wp2_with fail
      refine (new_own _ _ w (by omega) (by omega) (by omega)).mono ?_
      rintro e w1 ⟨rfl, hp1, hg1, hs1⟩
      go_wp2_with fail
      refine (awake21_any _).mono ?_
      rintro e w5 ⟨rfl, hg5⟩
      go_wp2_with fail
      go_ret
      exact ⟨rfl, below_only (below_only (Below.refl _ _) (Nat.le_refl _) hg1 (by simp)) (by omega) hg5 (by simp)⟩
    · have hsh' : len2 ≤ len3 := by omega
      have hd2 : decide (len3 < len2) = false := decide_eq_false hsh
      clear hsh
      go_enter Try.func7, Try.ntmps7
      go_wp2_with fail
      refine (new_own _ _ w (by omega) (by omega) (by omega)).mono ?_
      rintro e w1 ⟨rfl, hp1, hg1, hs1⟩
      have Hs : Hid (ViewsRel w.heap.size len2 (1 + a0 % 20) (1 + a0 % 20 + a1) w (.int .i64 0) (.int .i64 0) (.int .i64 0) (.int .i64 0) w1) :=
        ⟨0, 0, 0, 0, by omega, rfl, rfl, rfl, rfl, by omega, by omega, by omega, by omega, by omega, hp1, below_only (Below.refl _ _) (Nat.le_refl _) hg1 (by simp), hs1⟩
      clear hp1 hg1 hs1
      go_wp2_with fail
      go_loopw [11, 12, 13, 14] (fun n s v i wr => ViewsRel w.heap.size len2 (1 + a0 % 20) (1 + a0 % 20 + a1) w i n s v wr) (fun _ _ _ i _ => len2 - (intOf i).toNat)
      case atStart => exact Hs.out
      case round =>
        clear Hs
        obtain ⟨k, n, s, v, hk, rfl, rfl, rfl, rfl, hs0, hs1, hn1, hv0, hv1, hp, hb, hsz⟩ := hrel
        have Hp := Lib.hid hp
        have Hb := Lib.hid hb
        clear hp hb
        by_cases hlt : k < len2
        · obtain ⟨b, off, ha, hblt, hcell⟩ := Hc.out (by omega)
          obtain ⟨b3, off3, ha3, hblt3, hcell3⟩ := Hc3.out (by omega)
          subst ha
          subst ha3
          have hz := bounds_u8 (Hwz.out k hlt)
          have hc2 := row_below hcell Hb.out hblt k hlt
          have hcb : wr.cell? ⟨b3, off3 + k, none⟩ = some (.bool (z3 k)) := by rw [Hb.out.cell (p := ⟨b3, off3 + k, none⟩) hblt3]; exact hcell3 k (by omega)
          have hi0 : (0 : Int) ≤ (k : Int) := by omega
          have hi1 : (k : Int) < (len2 : Int) := by omega
          have hi2 : (k : Int) < (len3 : Int) := by omega
          have tb := timeoutF_bd (1 + a0 % 20) (1 + a0 % 20 + a1) v
          have el := left_at (1 + a0 % 20) (1 + a0 % 20 + a1) v s (n + zat z2 k) (by omega) (by omega) (by omega)
          have Hnear := Lib.hid (near_in (n + zat z2 k) (by omega) (by omega))
          obtain ⟨T, HT⟩ : ∃ T, Hid (timeoutF (1 + a0 % 20) (1 + a0 % 20 + a1) v = T) := ⟨_, rfl⟩
          rw [HT.out] at tb el
          have Hel := Lib.hid el
          clear el hcell hcell3
          have Hc2 := Lib.hid hc2
          have Hcb := Lib.hid hcb
          by_cases ho : T ≤ n + zat z2 k - s
          · have eo : (leftF (1 + a0 % 20) (1 + a0 % 20 + a1) v s (n + zat z2 k) == 0) = true := by rw [Hel.out]; rw [beq_iff_eq]; omega
            have Heo := Lib.hid eo
            clear eo
            cases hf : z3 k
            · rw [hf] at hcb
              by_cases h3 : zat z2 k % 3 = 0
              · go_wp2_with fail
                refine (timeout_any _ _ _ _).mono ?_
                rintro e w' ⟨rfl, rfl⟩
                rw [HT.out]
                go_wp2_with fail
                refine (due_gr _ _ _ _ _ _ _ _ Hp.out).mono ?_
                rintro e w4 ⟨rfl, hp4, hg4⟩
                rw [Heo.out]
                have hc2' := keep_new hg4 hc2
                have hcb' := keep_new hg4 hcb
                go_wp2_with fail
                refine (view_own _ _ _ _ _ _ hp4).mono ?_
                rintro e w' ⟨rfl, rfl⟩
                go_wp2_with fail
                refine (left_gr _ _ _ _ _ _ _ hp4).mono ?_
                rintro e w5 ⟨rfl, hp5, hg5⟩
                have eo := Heo.out
                have hc2'' := keep_new hg5 hc2'
                have hcb'' := keep_new hg5 hcb'
                go_wp2_with fail
                refine (progress_own _ _ _ _ _ _ _ hp5).mono ?_
                rintro e w6 ⟨rfl, hp6, hg6⟩
                rw [Hnear.out] at hp6
                go_wp2_with fail
                refine (enter_no _ _ _ _ _ _ _ _ hp6 (by omega)).mono ?_
                rintro e w' ⟨rfl, rfl⟩
                go_wp2_with fail
                refine (enter_no _ _ _ _ _ _ _ _ hp6 (by omega)).mono ?_
                rintro e w' ⟨rfl, rfl⟩
                have HN : Hid (ViewsRel w.heap.size len2 (1 + a0 % 20) (1 + a0 % 20 + a1) w (.int .i64 ((k : Int) + 1)) (.int .i64 (n + zat z2 k)) (.int .i64 (n + zat z2 k)) (.int .i64 v) w6) :=
                  ⟨k + 1, _, _, _, by omega, by go_num, rfl, rfl, rfl, by omega, by omega, by omega, by omega, by omega, hp6, (below_only (below_only (below_only Hb.out (by omega) hg4 (by simp)) (by have := hg4.size; omega) hg5 (by simp)) (by have := hg4.size; have := hg5.size; omega) hg6 (by simp)), by have := hg4.size; have := hg5.size; have := hg6.size; omega⟩
                clear hp4 hp5 hg4 hg5 hg6 hp6 hc2 hcb hc2' hcb' hc2'' hcb''
                go_wp2_with fail
                exact ⟨HN.out, by simp [intOf]; omega⟩
              · have h3' : (zat z2 k % 3 == 0) = false := by rw [beq_eq_false_iff_ne]; exact h3
                go_wp2_with fail
                refine (timeout_any _ _ _ _).mono ?_
                rintro e w' ⟨rfl, rfl⟩
                rw [HT.out]
                go_wp2_with fail
                refine (due_gr _ _ _ _ _ _ _ _ Hp.out).mono ?_
                rintro e w4 ⟨rfl, hp4, hg4⟩
                rw [Heo.out]
                have hc2' := keep_new hg4 hc2
                have hcb' := keep_new hg4 hcb
                go_wp2_with fail
                refine (view_own _ _ _ _ _ _ hp4).mono ?_
                rintro e w' ⟨rfl, rfl⟩
                go_wp2_with fail
                refine (left_gr _ _ _ _ _ _ _ hp4).mono ?_
                rintro e w5 ⟨rfl, hp5, hg5⟩
                have eo := Heo.out
                have hc2'' := keep_new hg5 hc2'
                have hcb'' := keep_new hg5 hcb'
                go_wp2_with fail
                refine (enter_no _ _ _ _ _ _ _ _ hp5 (by omega)).mono ?_
                rintro e w' ⟨rfl, rfl⟩
                go_wp2_with fail
                refine (enter_no _ _ _ _ _ _ _ _ hp5 (by omega)).mono ?_
                rintro e w' ⟨rfl, rfl⟩
                have HN : Hid (ViewsRel w.heap.size len2 (1 + a0 % 20) (1 + a0 % 20 + a1) w (.int .i64 ((k : Int) + 1)) (.int .i64 (n + zat z2 k)) (.int .i64 s) (.int .i64 v) w5) :=
                  ⟨k + 1, _, _, _, by omega, by go_num, rfl, rfl, rfl, by omega, by omega, by omega, by omega, by omega, hp5, (below_only (below_only Hb.out (by omega) hg4 (by simp)) (by have := hg4.size; omega) hg5 (by simp)), by have := hg4.size; have := hg5.size; omega⟩
                clear hp4 hp5 hg4 hg5 hc2 hcb hc2' hcb' hc2'' hcb''
                go_wp2_with fail
                exact ⟨HN.out, by simp [intOf]; omega⟩
            · rw [hf] at hcb
              go_wp2_with fail
              refine (timeout_any _ _ _ _).mono ?_
              rintro e w' ⟨rfl, rfl⟩
              rw [HT.out]
              go_wp2_with fail
              refine (due_gr _ _ _ _ _ _ _ _ Hp.out).mono ?_
              rintro e w4 ⟨rfl, hp4, hg4⟩
              rw [Heo.out]
              have hc2' := keep_new hg4 hc2
              have hcb' := keep_new hg4 hcb
              go_wp2_with fail
              refine (view_own _ _ _ _ _ _ hp4).mono ?_
              rintro e w' ⟨rfl, rfl⟩
              go_wp2_with fail
              refine (left_gr _ _ _ _ _ _ _ hp4).mono ?_
              rintro e w5 ⟨rfl, hp5, hg5⟩
              have eo := Heo.out
              have hc2'' := keep_new hg5 hc2'
              have hcb'' := keep_new hg5 hcb'
              go_wp2_with fail
              refine (enter_yes _ _ _ _ _ _ _ _ hp5 (by omega) (by omega)).mono ?_
              rintro e w6 ⟨rfl, hp6, hg6⟩
              rw [Hnear.out] at hp6
              go_wp2_with fail
              refine (enter_no _ _ _ _ _ _ _ _ hp6 (by omega)).mono ?_
              rintro e w' ⟨rfl, rfl⟩
              go_wp2_with fail
              refine (enter_no _ _ _ _ _ _ _ _ hp6 (by omega)).mono ?_
              rintro e w' ⟨rfl, rfl⟩
              have HN : Hid (ViewsRel w.heap.size len2 (1 + a0 % 20) (1 + a0 % 20 + a1) w (.int .i64 ((k : Int) + 1)) (.int .i64 (n + zat z2 k)) (.int .i64 (n + zat z2 k)) (.int .i64 (v + 1)) w6) :=
                ⟨k + 1, _, _, _, by omega, by go_num, rfl, rfl, rfl, by omega, by omega, by omega, by omega, by omega, hp6, (below_only (below_only (below_only Hb.out (by omega) hg4 (by simp)) (by have := hg4.size; omega) hg5 (by simp)) (by have := hg4.size; have := hg5.size; omega) hg6 (by simp)), by have := hg4.size; have := hg5.size; have := hg6.size; omega⟩
              clear hp4 hp5 hg4 hg5 hg6 hp6 hc2 hcb hc2' hcb' hc2'' hcb''
              go_wp2_with fail
              exact ⟨HN.out, by simp [intOf]; omega⟩
          · have eo : (leftF (1 + a0 % 20) (1 + a0 % 20 + a1) v s (n + zat z2 k) == 0) = false := by rw [Hel.out]; rw [beq_eq_false_iff_ne]; omega
            have ho' : n + zat z2 k - s < T := by omega
            clear ho
            have Heo := Lib.hid eo
            clear eo
            cases hf : z3 k
            · rw [hf] at hcb
              by_cases h3 : zat z2 k % 3 = 0
              · go_wp2_with fail
                refine (timeout_any _ _ _ _).mono ?_
                rintro e w' ⟨rfl, rfl⟩
                rw [HT.out]
                go_wp2_with fail
                refine (due_gr _ _ _ _ _ _ _ _ Hp.out).mono ?_
                rintro e w4 ⟨rfl, hp4, hg4⟩
                rw [Heo.out]
                have hc2' := keep_new hg4 hc2
                have hcb' := keep_new hg4 hcb
                go_wp2_with fail
                refine (view_own _ _ _ _ _ _ hp4).mono ?_
                rintro e w' ⟨rfl, rfl⟩
                go_wp2_with fail
                refine (left_gr _ _ _ _ _ _ _ hp4).mono ?_
                rintro e w5 ⟨rfl, hp5, hg5⟩
                have eo := Heo.out
                have hc2'' := keep_new hg5 hc2'
                have hcb'' := keep_new hg5 hcb'
                go_wp2_with fail
                refine (progress_own _ _ _ _ _ _ _ hp5).mono ?_
                rintro e w6 ⟨rfl, hp6, hg6⟩
                rw [Hnear.out] at hp6
                go_wp2_with fail
                refine (enter_no _ _ _ _ _ _ _ _ hp6 (by omega)).mono ?_
                rintro e w' ⟨rfl, rfl⟩
                go_wp2_with fail
                refine (enter_no _ _ _ _ _ _ _ _ hp6 (by omega)).mono ?_
                rintro e w' ⟨rfl, rfl⟩
                have HN : Hid (ViewsRel w.heap.size len2 (1 + a0 % 20) (1 + a0 % 20 + a1) w (.int .i64 ((k : Int) + 1)) (.int .i64 (n + zat z2 k)) (.int .i64 (n + zat z2 k)) (.int .i64 v) w6) :=
                  ⟨k + 1, _, _, _, by omega, by go_num, rfl, rfl, rfl, by omega, by omega, by omega, by omega, by omega, hp6, (below_only (below_only (below_only Hb.out (by omega) hg4 (by simp)) (by have := hg4.size; omega) hg5 (by simp)) (by have := hg4.size; have := hg5.size; omega) hg6 (by simp)), by have := hg4.size; have := hg5.size; have := hg6.size; omega⟩
                clear hp4 hp5 hg4 hg5 hg6 hp6 hc2 hcb hc2' hcb' hc2'' hcb''
                go_wp2_with fail
                exact ⟨HN.out, by simp [intOf]; omega⟩
              · have h3' : (zat z2 k % 3 == 0) = false := by rw [beq_eq_false_iff_ne]; exact h3
                go_wp2_with fail
                refine (timeout_any _ _ _ _).mono ?_
                rintro e w' ⟨rfl, rfl⟩
                rw [HT.out]
                go_wp2_with fail
                refine (due_gr _ _ _ _ _ _ _ _ Hp.out).mono ?_
                rintro e w4 ⟨rfl, hp4, hg4⟩
                rw [Heo.out]
                have hc2' := keep_new hg4 hc2
                have hcb' := keep_new hg4 hcb
                go_wp2_with fail
                refine (view_own _ _ _ _ _ _ hp4).mono ?_
                rintro e w' ⟨rfl, rfl⟩
                go_wp2_with fail
                refine (left_gr _ _ _ _ _ _ _ hp4).mono ?_
                rintro e w5 ⟨rfl, hp5, hg5⟩
                have eo := Heo.out
                have hc2'' := keep_new hg5 hc2'
                have hcb'' := keep_new hg5 hcb'
                go_wp2_with fail
                refine (enter_no _ _ _ _ _ _ _ _ hp5 (by omega)).mono ?_
                rintro e w' ⟨rfl, rfl⟩
                go_wp2_with fail
                refine (enter_no _ _ _ _ _ _ _ _ hp5 (by omega)).mono ?_
                rintro e w' ⟨rfl, rfl⟩
                have HN : Hid (ViewsRel w.heap.size len2 (1 + a0 % 20) (1 + a0 % 20 + a1) w (.int .i64 ((k : Int) + 1)) (.int .i64 (n + zat z2 k)) (.int .i64 s) (.int .i64 v) w5) :=
                  ⟨k + 1, _, _, _, by omega, by go_num, rfl, rfl, rfl, by omega, by omega, by omega, by omega, by omega, hp5, (below_only (below_only Hb.out (by omega) hg4 (by simp)) (by have := hg4.size; omega) hg5 (by simp)), by have := hg4.size; have := hg5.size; omega⟩
                clear hp4 hp5 hg4 hg5 hc2 hcb hc2' hcb' hc2'' hcb''
                go_wp2_with fail
                exact ⟨HN.out, by simp [intOf]; omega⟩
            · rw [hf] at hcb
              by_cases h3 : zat z2 k % 3 = 0
              · go_wp2_with fail
                refine (timeout_any _ _ _ _).mono ?_
                rintro e w' ⟨rfl, rfl⟩
                rw [HT.out]
                go_wp2_with fail
                refine (due_gr _ _ _ _ _ _ _ _ Hp.out).mono ?_
                rintro e w4 ⟨rfl, hp4, hg4⟩
                rw [Heo.out]
                have hc2' := keep_new hg4 hc2
                have hcb' := keep_new hg4 hcb
                go_wp2_with fail
                refine (view_own _ _ _ _ _ _ hp4).mono ?_
                rintro e w' ⟨rfl, rfl⟩
                go_wp2_with fail
                refine (left_gr _ _ _ _ _ _ _ hp4).mono ?_
                rintro e w5 ⟨rfl, hp5, hg5⟩
                have eo := Heo.out
                have hc2'' := keep_new hg5 hc2'
                have hcb'' := keep_new hg5 hcb'
                go_wp2_with fail
                refine (progress_own _ _ _ _ _ _ _ hp5).mono ?_
                rintro e w6 ⟨rfl, hp6, hg6⟩
                rw [Hnear.out] at hp6
                go_wp2_with fail
                refine (enter_no _ _ _ _ _ _ _ _ hp6 (by omega)).mono ?_
                rintro e w' ⟨rfl, rfl⟩
                go_wp2_with fail
                refine (enter_no _ _ _ _ _ _ _ _ hp6 (by omega)).mono ?_
                rintro e w' ⟨rfl, rfl⟩
                have HN : Hid (ViewsRel w.heap.size len2 (1 + a0 % 20) (1 + a0 % 20 + a1) w (.int .i64 ((k : Int) + 1)) (.int .i64 (n + zat z2 k)) (.int .i64 (n + zat z2 k)) (.int .i64 v) w6) :=
                  ⟨k + 1, _, _, _, by omega, by go_num, rfl, rfl, rfl, by omega, by omega, by omega, by omega, by omega, hp6, (below_only (below_only (below_only Hb.out (by omega) hg4 (by simp)) (by have := hg4.size; omega) hg5 (by simp)) (by have := hg4.size; have := hg5.size; omega) hg6 (by simp)), by have := hg4.size; have := hg5.size; have := hg6.size; omega⟩
                clear hp4 hp5 hg4 hg5 hg6 hp6 hc2 hcb hc2' hcb' hc2'' hcb''
                go_wp2_with fail
                exact ⟨HN.out, by simp [intOf]; omega⟩
              · have h3' : (zat z2 k % 3 == 0) = false := by rw [beq_eq_false_iff_ne]; exact h3
                go_wp2_with fail
                refine (timeout_any _ _ _ _).mono ?_
                rintro e w' ⟨rfl, rfl⟩
                rw [HT.out]
                go_wp2_with fail
                refine (due_gr _ _ _ _ _ _ _ _ Hp.out).mono ?_
                rintro e w4 ⟨rfl, hp4, hg4⟩
                rw [Heo.out]
                have hc2' := keep_new hg4 hc2
                have hcb' := keep_new hg4 hcb
                go_wp2_with fail
                refine (view_own _ _ _ _ _ _ hp4).mono ?_
                rintro e w' ⟨rfl, rfl⟩
                go_wp2_with fail
                refine (left_gr _ _ _ _ _ _ _ hp4).mono ?_
                rintro e w5 ⟨rfl, hp5, hg5⟩
                have eo := Heo.out
                have hc2'' := keep_new hg5 hc2'
                have hcb'' := keep_new hg5 hcb'
                go_wp2_with fail
                refine (enter_no _ _ _ _ _ _ _ _ hp5 (by omega)).mono ?_
                rintro e w' ⟨rfl, rfl⟩
                go_wp2_with fail
                refine (enter_no _ _ _ _ _ _ _ _ hp5 (by omega)).mono ?_
                rintro e w' ⟨rfl, rfl⟩
                have HN : Hid (ViewsRel w.heap.size len2 (1 + a0 % 20) (1 + a0 % 20 + a1) w (.int .i64 ((k : Int) + 1)) (.int .i64 (n + zat z2 k)) (.int .i64 s) (.int .i64 v) w5) :=
                  ⟨k + 1, _, _, _, by omega, by go_num, rfl, rfl, rfl, by omega, by omega, by omega, by omega, by omega, hp5, (below_only (below_only Hb.out (by omega) hg4 (by simp)) (by have := hg4.size; omega) hg5 (by simp)), by have := hg4.size; have := hg5.size; omega⟩
                clear hp4 hp5 hg4 hg5 hc2 hcb hc2' hcb' hc2'' hcb''
                go_wp2_with fail
                exact ⟨HN.out, by simp [intOf]; omega⟩
        · go_wp2_with fail
          refine (awake21_any _).mono ?_
          rintro e w6 ⟨rfl, hg6⟩
          go_wp2_with fail
          go_ret
          exact ⟨rfl, below_only Hb.out (by omega) hg6 (by simp)⟩

theorem own : ownKnob Try.prog.godebug = none := by kernel_rfl
theorem laidOut : laidOutB Try.prog = true := by kernel_rfl

set_option maxRecDepth 100000 in
theorem lifted (os : Os) (started : os.Started) (H : Type) (enc : TypeId × Value → H) :
    ReturnsInHanded {} Try.checked os 7 .any (Rows.paceViewsSpec.pre6 enc Try.prog Try.f7 Rows.paceViewsRow.domain false) (Rows.paceViewsSpec.post enc Try.prog Try.f7 false true false false) := by
  refine returnsInHanded_of_change (C := Try.checked) own started (by kernel_rfl) Try.func7
    (ChangeSpec.witness6 (enc := enc) (C := Try.checked) false ⟨#[], #[.int .u8 0, .int .u8 0, .slice none 0 0, .slice none 0 0], []⟩ 8 (by kernel_rfl) (by kernel_rfl) (by kernel_rfl) (by kernel_rfl)) ?_
  intro W base args ds gs before hval0 hW hcnd _
  have hval : ∀ (j : Nat) t v, Try.f7.params[j]? = some t → args[j]? = some v → Value.okWide Try.prog W .any base t v := hval0
  have hW' := hW
  obtain ⟨p, q, hA0, hV, rfl, hfz, hnd⟩ := hW
  have hA : DataW.TrodAll enc Try.prog W 0 (fun _ => true) true Try.f7.params.toList args.toList ds p := hA0
  rw [Try.params7] at hA hval
  obtain ⟨v0, vs0, d0, ds0, p0, q0, hargs, rfl, rfl, h0, r0⟩ := trodAll_cons hA
  obtain ⟨v1, vs1, d1, ds1, p1, q1, rfl, rfl, rfl, h1, r1⟩ := trodAll_cons r0
  obtain ⟨v2, vs2, d2, ds2, p2, q2, rfl, rfl, rfl, h2, r2⟩ := trodAll_cons r1
  obtain ⟨v3, vs3, d3, ds3, p3, q3, rfl, rfl, rfl, h3, r3⟩ := trodAll_cons r2
  obtain ⟨rfl, rfl, rfl⟩ := trodAll_nil r3
  obtain rfl : args = #[v0, v1, v2, v3] := by cases args; simp_all
  obtain ⟨rfl, rfl⟩ := trodVars_none hV
  obtain ⟨a0, rfl, rfl, rfl, w0⟩ := open_int Try.underlying5 (hval 0 5 v0 rfl rfl) h0
  obtain ⟨a1, rfl, rfl, rfl, w1⟩ := open_int Try.underlying5 (hval 1 5 v1 rfl rfl) h1
  obtain ⟨a2, len2, cap2, rfl⟩ := okWide_slice Try.underlying30 (hval 2 30 v2 rfl rfl)
  have k2 := h2
  have lt2 : ∀ x ∈ p2, x.block < W.heap.size := by obtain ⟨m, hm⟩ := k2; exact DataW.trod_lt m _ _ _ hm
  obtain ⟨z2, w2⟩ : ∃ zs, IsRow .u8 W a2 len2 cap2 zs := by
    obtain ⟨fuel, hf⟩ := h2
    rcases open_ints Try.underlying30 Try.underlying5 (by kernel_rfl) hf with ⟨hcs, _⟩ | ⟨x, l, c, zs, hcs, _, hl, hm, hz, _, hcell, hwz⟩
    · simp [Value.cells] at hcs
      obtain ⟨rfl, rfl, rfl⟩ := hcs
      exact ⟨[], .inl ⟨rfl, rfl, rfl, rfl⟩⟩
    · simp [Value.cells] at hcs
      obtain ⟨rfl, rfl, rfl⟩ := hcs
      exact ⟨zs, .inr ⟨_, rfl, hl, hm, by simpa using hz, hcell, hwz⟩⟩
  obtain ⟨a3, len3, cap3, rfl⟩ := okWide_slice Try.underlying51 (hval 3 51 v3 rfl rfl)
  have k3 := h3
  have lt3 : ∀ x ∈ p3, x.block < W.heap.size := by obtain ⟨m, hm⟩ := k3; exact DataW.trod_lt m _ _ _ hm
  obtain ⟨z3, w3⟩ := bools_open Try.underlying51 Try.underlying4 (by kernel_rfl) h3
  clear hA0 hval0
  refine (walk a0 a1 a2 len2 cap2 z2 a3 len3 cap3 z3 W w0 w1 w2 w3).mono fun e W' ⟨he, bel⟩ => ?_
  subst he
  exact ⟨_, rfl, _, _, _, [], _, [], hW', trodAll_mk1 (shut_bool Try.underlying4 _), (trodAll_cons_mk (shut_int Try.underlying5 w0) (trodAll_cons_mk (shut_int Try.underlying5 w1) (trodAll_cons_mk (Below.trod laidOut (by kernel_rfl) (of_decide_eq_true (by kernel_rfl)) k2 bel lt2) (trodAll_cons_mk (Below.trod laidOut (by kernel_rfl) (of_decide_eq_true (by kernel_rfl)) k3 bel lt3) trodAll_mk0)))), rfl, bel.frame _, fun h => by cases h⟩

theorem over : Rows.paceViewsRow.holds Try.pinned (OpenSpec.ofChange Rows.paceViewsSpec) :=
  OpenClaim.holds_of_wide 7 Try.f7 rfl rfl rfl rfl rfl rfl rfl ⟨rfl, rfl, rfl, rfl, rfl⟩ rfl rfl rfl rfl rfl (by kernel_rfl) Try.func7 (by kernel_rfl)
    (of_decide_eq_true (by kernel_rfl)) (by unfold Func.isWrapper; first | (rw [if_pos (by decide +kernel)]; kernel_rfl) | (rw [if_neg (by decide +kernel)]; exact ⟨rfl, rfl⟩))
    (fun os started H enc _ => lifted os started H enc)

/-- The statement. -/
theorem proved : Rows.PaceViewsSaid := over
#print axioms proved
end Go.Proofs.Ytdjfbojnobjfgaa.paceViews
