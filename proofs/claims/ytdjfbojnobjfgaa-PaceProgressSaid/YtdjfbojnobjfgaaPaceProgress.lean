/- PaceProgress returns true at every input, and its arguments read as they did: no condition. -/
import Derived.Test.YtdjfbojnobjfgaaRows
import Derived.WalkKit
import Derived.ProofKit
import Derived.OpenShut
import Derived.ShutString
import Derived.ChangeOld
import Derived.Below
import Derived.WalkSpells
import Derived.WalkLawsBesides
import Derived.Handy
import Derived.Test.YtdjfbojnobjfgaaMem
import Derived.Test.YtdjfbojnobjfgaaView
import Derived.Test.YtdjfbojnobjfgaaPace
import Derived.Test.YtdjfbojnobjfgaaAw21
namespace Go.Proofs.Ytdjfbojnobjfgaa.paceProgress
open Go.ChangeShapes Go.WideShapes Go.ChangeAt Go.RowKit
open Go.ChangeMaps (open_string shut_string)
set_option linter.unusedVariables false

theorem near_in (n : Int) (h0 : 0 ≤ n) (h1 : n ≤ 2305843009213693952) : nearF n = n := by unfold nearF; omega
theorem left_at (b m v s n : Int) (hs : 0 ≤ s) (hn : s ≤ n) (h1 : n ≤ 2305843009213693952) : leftF b m v s n = if timeoutF b m v < n - s then 0 else timeoutF b m v - (n - s) := by
  unfold leftF; rw [near_in n (by omega) h1]; omega
theorem left_before (b m v s n : Int) (hn : n ≤ s) (h0 : 0 ≤ s) (h1 : s ≤ 2305843009213693952) (ht : 0 ≤ timeoutF b m v) : leftF b m v s n = timeoutF b m v := by
  unfold leftF
  have : nearF n ≤ s := by unfold nearF; omega
  omega
def ProgRel (B len : Nat) (b m v T : Int) (w : World) (i n_ : Value) (wr : World) : Prop :=
  ∃ (k : Nat) (n : Int), k ≤ len ∧ i = .int .i64 k ∧ n_ = .int .i64 n ∧ 0 ≤ n ∧ n ≤ 1000000 * k ∧ PaceIs wr B 64 b m v n ∧ Below B w wr ∧ B < wr.heap.size

set_option maxHeartbeats 2000000 in
theorem walk (a0 a1 a2 : Int) (a3 : Option Addr) (len3 cap3 : Nat) (z3 : List Int) (w : World) (w0 : (Lit.int .u8 a0).wf = true) (w1 : (Lit.int .u8 a1).wf = true) (w2 : (Lit.int .u8 a2).wf = true) (w3 : IsRow .u16 w a3 len3 cap3 z3) :
    Calls Try.prog 8 #[.int .u8 a0, .int .u8 a1, .int .u8 a2, .slice a3 len3 cap3] w fun e w' => e = .returned (.bool true) ∧ Below w.heap.size w w' := by
  have h0 := bounds_u8 w0
  have h1 := bounds_u8 w1
  have h2 := bounds_u8 w2
  obtain ⟨hl, hwz, hc⟩ := w3.at
  clear w0 w1 w2 w3
  have Hc := Lib.hid hc
  have Hwz := Lib.hid hwz
  clear hc hwz
  by_cases h60 : 60 < len3
  · go_enter Try.func8, Try.ntmps8
    go_wp2_with fail
    refine (new_own _ _ w (by omega) (by omega) (by omega)).mono ?_
    rintro e w1 ⟨rfl, hp1, hg1, hs1⟩
    go_wp2_with fail
    refine (awake21_any _).mono ?_
    rintro e w5 ⟨rfl, hg5⟩
    go_wp2_with fail
    go_ret
    exact ⟨rfl, below_only (below_only (Below.refl _ _) (Nat.le_refl _) hg1 (by simp)) (by omega) hg5 (by simp)⟩
  · have h60' : len3 ≤ 60 := by omega
    clear h60
    have tin := timeoutF_in (1 + a0) (1 + a0 + a1) a2 (by omega) (by omega) (by omega) (by omega) (by omega)
    have tb := dbl_bd (1 + a0 + a1) a2.toNat (1 + a0) (by omega) (by omega)
    rw [← tin] at tb
    obtain ⟨T, HT⟩ : ∃ T, Hid (timeoutF (1 + a0) (1 + a0 + a1) a2 = T) := ⟨_, rfl⟩
    rw [HT.out] at tb
    clear tin
    have tb1 : 1 ≤ T ∧ T ≤ 511 := by omega
    clear tb
    by_cases hv : a2 ≤ 0
    rotate_left
    · have hv' : 0 < a2 := by omega
      clear hv
      go_enter Try.func8, Try.ntmps8
      go_wp2_with fail
      refine (new_own _ _ w (by omega) (by omega) (by omega)).mono ?_
      rintro e w1 ⟨rfl, hp1, hg1, hs1⟩
      go_wp2_with fail
      refine (enter_yes _ _ _ _ _ _ _ _ hp1 (by omega) (by omega)).mono ?_
      rintro e wX ⟨rfl, hp2, hg2⟩
      have Hp : Hid (PaceIs wX w.heap.size 64 (1 + a0) (1 + a0 + a1) a2 0) := hp2
      have hs2 : w.heap.size < wX.heap.size := by have := hg2.size; omega
      have Hb := Lib.hid (below_only (below_only (Below.refl w.heap.size w) (Nat.le_refl _) hg1 (by simp)) (by omega) hg2 (by simp))
      clear hp1 hg1 hp2 hg2 hs1
      go_wp2_with fail
      refine (timeout_any _ _ _ _).mono ?_
      rintro e w' ⟨rfl, rfl⟩
      rw [HT.out]
      have Hs : Hid (ProgRel w.heap.size len3 (1 + a0) (1 + a0 + a1) a2 T w (.int .i64 0) (.int .i64 0) wX) := ⟨0, 0, by omega, rfl, rfl, by omega, by omega, Hp.out, Hb.out, hs2⟩
      clear Hp Hb hs2
      go_wp2_with fail
      go_loopw [12, 13] (fun n i wr => ProgRel w.heap.size len3 (1 + a0) (1 + a0 + a1) a2 T w i n wr) (fun _ i _ => len3 - (intOf i).toNat)
      case atStart => exact Hs.out
      case round =>
        clear Hs
        obtain ⟨k, n, hk, rfl, rfl, hn0, hn1, hp, hb, hsz⟩ := hrel
        have Hp := Lib.hid hp
        have Hb := Lib.hid hb
        clear hp hb
        by_cases hlt : k < len3
        · obtain ⟨b, off, ha, hblt, hcell⟩ := Hc.out (by omega)
          subst ha
          have hz := bounds_u16 (Hwz.out k hlt)
          have hc2 := row_below hcell Hb.out hblt k hlt
          have hi0 : (0 : Int) ≤ (k : Int) := by omega
          have hi1 : (k : Int) < (len3 : Int) := by omega
          have hm1 : 0 ≤ zat z3 k % T := Int.emod_nonneg _ (by omega)
          have hm2 : zat z3 k % T < T := Int.emod_lt_of_pos _ (by omega)
          have e1 : (true && (leftF (1 + a0) (1 + a0 + a1) a2 n (n + zat z3 k % T) == 0)) = false := by
            rw [left_at _ _ _ _ _ (by omega) (by omega) (by omega), HT.out, if_neg (by omega), Bool.true_and, beq_eq_false_iff_ne]; omega
          have e2 : nearF (n + zat z3 k % T) = n + zat z3 k % T := near_in _ (by omega) (by omega)
          have e3 : leftF (1 + a0) (1 + a0 + a1) a2 (n + zat z3 k % T) (n + zat z3 k % T) = T := by
            rw [left_at _ _ _ _ _ (by omega) (by omega) (by omega), HT.out, if_neg (by omega)]; omega
          have e4 : leftF (1 + a0) (1 + a0 + a1) a2 (n + zat z3 k % T) (n + zat z3 k % T - 1) = T := by
            rw [left_before _ _ _ _ _ (by omega) (by omega) (by omega) (by rw [HT.out]; omega), HT.out]
          have He1 := Lib.hid e1
          have He2 := Lib.hid e2
          have He3 := Lib.hid e3
          have He4 := Lib.hid e4
          clear e1 e2 e3 e4 hcell
          go_wp2_with fail
          refine (due_gr _ _ _ _ _ _ _ _ Hp.out).mono ?_
          rintro e w4 ⟨rfl, hp4, hg4⟩
          rw [He1.out]
          go_wp2_with fail
          refine (progress_own _ _ _ _ _ _ _ hp4).mono ?_
          rintro e w5 ⟨rfl, hp5, hg5⟩
          rw [He2.out] at hp5
          go_wp2_with fail
          refine (left_gr _ _ _ _ _ _ _ hp5).mono ?_
          rintro e w6 ⟨rfl, hp6, hg6⟩
          rw [He3.out]
          go_wp2_with fail
          refine (left_gr _ _ _ _ _ _ _ hp6).mono ?_
          rintro e w7 ⟨rfl, hp7, hg7⟩
          rw [He4.out]
          have hall : Below w.heap.size w w7 := below_only (below_only (below_only (below_only Hb.out (by omega) hg4 (by simp)) (by have := hg4.size; omega) hg5 (by simp)) (by have := hg4.size; have := hg5.size; omega) hg6 (by simp)) (by have := hg4.size; have := hg5.size; have := hg6.size; omega) hg7 (by simp)
          have HN : Hid (ProgRel w.heap.size len3 (1 + a0) (1 + a0 + a1) a2 T w (.int .i64 ((k : Int) + 1)) (.int .i64 (n + zat z3 k % T)) w7) :=
            ⟨k + 1, _, by omega, by go_num, rfl, by omega, by omega, hp7, hall, by have := hg4.size; have := hg5.size; have := hg6.size; have := hg7.size; omega⟩
          clear hall hp4 hg4 hp5 hg5 hp6 hg6 hp7 hg7 hc2 hm1 hm2
          go_wp2_with fail
          exact ⟨HN.out, by simp [intOf]; omega⟩
        · have e1 : (true && (leftF (1 + a0) (1 + a0 + a1) a2 n (n + T - 1) == 0)) = false := by
            rw [left_at _ _ _ _ _ (by omega) (by omega) (by omega), HT.out, if_neg (by omega), Bool.true_and, beq_eq_false_iff_ne]; omega
          have e2 : (true && (leftF (1 + a0) (1 + a0 + a1) a2 n (n + T) == 0)) = true := by
            rw [left_at _ _ _ _ _ (by omega) (by omega) (by omega), HT.out, Bool.true_and, beq_iff_eq]; omega
          have He1 := Lib.hid e1
          have He2 := Lib.hid e2
          clear e1 e2
          go_wp2_with fail
          refine (due_gr _ _ _ _ _ _ _ _ Hp.out).mono ?_
          rintro e w4 ⟨rfl, hp4, hg4⟩
          rw [He1.out]
          go_wp2_with fail
          refine (due_gr _ _ _ _ _ _ _ _ hp4).mono ?_
          rintro e w5 ⟨rfl, hp5, hg5⟩
          rw [He2.out]
          go_wp2_with fail
          refine (view_own _ _ _ _ _ _ hp5).mono ?_
          rintro e w6 ⟨rfl, rfl⟩
          go_wp2_with fail
          refine (awake21_any _).mono ?_
          rintro e w6 ⟨rfl, hg6⟩
          go_wp2_with fail
          go_ret
          exact ⟨rfl, below_only (below_only (below_only Hb.out (by omega) hg4 (by simp)) (by have := hg4.size; omega) hg5 (by simp)) (by have := hg4.size; have := hg5.size; omega) hg6 (by simp)⟩
    · go_enter Try.func8, Try.ntmps8
      go_wp2_with fail
      refine (new_own _ _ w (by omega) (by omega) (by omega)).mono ?_
      rintro e wX ⟨rfl, hp1, hg1, hs2⟩
      have Hp : Hid (PaceIs wX w.heap.size 64 (1 + a0) (1 + a0 + a1) a2 0) := by
        have e0 : a2 = 0 := by omega
        rw [e0]; exact hp1
      have Hb := Lib.hid (below_only (Below.refl w.heap.size w) (Nat.le_refl _) hg1 (by simp))
      clear hp1 hg1
      go_wp2_with fail
      refine (timeout_any _ _ _ _).mono ?_
      rintro e w' ⟨rfl, rfl⟩
      rw [HT.out]
      have Hs : Hid (ProgRel w.heap.size len3 (1 + a0) (1 + a0 + a1) a2 T w (.int .i64 0) (.int .i64 0) wX) := ⟨0, 0, by omega, rfl, rfl, by omega, by omega, Hp.out, Hb.out, hs2⟩
      clear Hp Hb hs2
      go_wp2_with fail
      go_loopw [12, 13] (fun n i wr => ProgRel w.heap.size len3 (1 + a0) (1 + a0 + a1) a2 T w i n wr) (fun _ i _ => len3 - (intOf i).toNat)
      case atStart => exact Hs.out
      case round =>
        clear Hs
        obtain ⟨k, n, hk, rfl, rfl, hn0, hn1, hp, hb, hsz⟩ := hrel
        have Hp := Lib.hid hp
        have Hb := Lib.hid hb
        clear hp hb
        by_cases hlt : k < len3
        · obtain ⟨b, off, ha, hblt, hcell⟩ := Hc.out (by omega)
          subst ha
          have hz := bounds_u16 (Hwz.out k hlt)
          have hc2 := row_below hcell Hb.out hblt k hlt
          have hi0 : (0 : Int) ≤ (k : Int) := by omega
          have hi1 : (k : Int) < (len3 : Int) := by omega
          have hm1 : 0 ≤ zat z3 k % T := Int.emod_nonneg _ (by omega)
          have hm2 : zat z3 k % T < T := Int.emod_lt_of_pos _ (by omega)
          have e1 : (true && (leftF (1 + a0) (1 + a0 + a1) a2 n (n + zat z3 k % T) == 0)) = false := by
            rw [left_at _ _ _ _ _ (by omega) (by omega) (by omega), HT.out, if_neg (by omega), Bool.true_and, beq_eq_false_iff_ne]; omega
          have e2 : nearF (n + zat z3 k % T) = n + zat z3 k % T := near_in _ (by omega) (by omega)
          have e3 : leftF (1 + a0) (1 + a0 + a1) a2 (n + zat z3 k % T) (n + zat z3 k % T) = T := by
            rw [left_at _ _ _ _ _ (by omega) (by omega) (by omega), HT.out, if_neg (by omega)]; omega
          have e4 : leftF (1 + a0) (1 + a0 + a1) a2 (n + zat z3 k % T) (n + zat z3 k % T - 1) = T := by
            rw [left_before _ _ _ _ _ (by omega) (by omega) (by omega) (by rw [HT.out]; omega), HT.out]
          have He1 := Lib.hid e1
          have He2 := Lib.hid e2
          have He3 := Lib.hid e3
          have He4 := Lib.hid e4
          clear e1 e2 e3 e4 hcell
          go_wp2_with fail
          refine (due_gr _ _ _ _ _ _ _ _ Hp.out).mono ?_
          rintro e w4 ⟨rfl, hp4, hg4⟩
          rw [He1.out]
          go_wp2_with fail
          refine (progress_own _ _ _ _ _ _ _ hp4).mono ?_
          rintro e w5 ⟨rfl, hp5, hg5⟩
          rw [He2.out] at hp5
          go_wp2_with fail
          refine (left_gr _ _ _ _ _ _ _ hp5).mono ?_
          rintro e w6 ⟨rfl, hp6, hg6⟩
          rw [He3.out]
          go_wp2_with fail
          refine (left_gr _ _ _ _ _ _ _ hp6).mono ?_
          rintro e w7 ⟨rfl, hp7, hg7⟩
          rw [He4.out]
          have hall : Below w.heap.size w w7 := below_only (below_only (below_only (below_only Hb.out (by omega) hg4 (by simp)) (by have := hg4.size; omega) hg5 (by simp)) (by have := hg4.size; have := hg5.size; omega) hg6 (by simp)) (by have := hg4.size; have := hg5.size; have := hg6.size; omega) hg7 (by simp)
          have HN : Hid (ProgRel w.heap.size len3 (1 + a0) (1 + a0 + a1) a2 T w (.int .i64 ((k : Int) + 1)) (.int .i64 (n + zat z3 k % T)) w7) :=
            ⟨k + 1, _, by omega, by go_num, rfl, by omega, by omega, hp7, hall, by have := hg4.size; have := hg5.size; have := hg6.size; have := hg7.size; omega⟩
          clear hall hp4 hg4 hp5 hg5 hp6 hg6 hp7 hg7 hc2 hm1 hm2
          go_wp2_with fail
          exact ⟨HN.out, by simp [intOf]; omega⟩
        · have e1 : (true && (leftF (1 + a0) (1 + a0 + a1) a2 n (n + T - 1) == 0)) = false := by
            rw [left_at _ _ _ _ _ (by omega) (by omega) (by omega), HT.out, if_neg (by omega), Bool.true_and, beq_eq_false_iff_ne]; omega
          have e2 : (true && (leftF (1 + a0) (1 + a0 + a1) a2 n (n + T) == 0)) = true := by
            rw [left_at _ _ _ _ _ (by omega) (by omega) (by omega), HT.out, Bool.true_and, beq_iff_eq]; omega
          have He1 := Lib.hid e1
          have He2 := Lib.hid e2
          clear e1 e2
          go_wp2_with fail
          refine (due_gr _ _ _ _ _ _ _ _ Hp.out).mono ?_
          rintro e w4 ⟨rfl, hp4, hg4⟩
          rw [He1.out]
          go_wp2_with fail
          refine (due_gr _ _ _ _ _ _ _ _ hp4).mono ?_
          rintro e w5 ⟨rfl, hp5, hg5⟩
          rw [He2.out]
          go_wp2_with fail
          refine (view_own _ _ _ _ _ _ hp5).mono ?_
          rintro e w6 ⟨rfl, rfl⟩
          go_wp2_with fail
          refine (awake21_any _).mono ?_
          rintro e w6 ⟨rfl, hg6⟩
          go_wp2_with fail
          go_ret
          exact ⟨rfl, below_only (below_only (below_only Hb.out (by omega) hg4 (by simp)) (by have := hg4.size; omega) hg5 (by simp)) (by have := hg4.size; have := hg5.size; omega) hg6 (by simp)⟩

theorem own : ownKnob Try.prog.godebug = none := by kernel_rfl
theorem laidOut : laidOutB Try.prog = true := by kernel_rfl

set_option maxRecDepth 100000 in
theorem lifted (os : Os) (started : os.Started) (H : Type) (enc : TypeId × Value → H) :
    ReturnsInHanded {} Try.checked os 8 .any (Rows.paceProgressSpec.pre6 enc Try.prog Try.f8 Rows.paceProgressRow.domain false) (Rows.paceProgressSpec.post enc Try.prog Try.f8 false true false false) := by
  refine returnsInHanded_of_change (C := Try.checked) own started (by kernel_rfl) Try.func8
    (ChangeSpec.witness6 (enc := enc) (C := Try.checked) false ⟨#[], #[.int .u8 0, .int .u8 0, .int .u8 0, .slice none 0 0], []⟩ 8 (by kernel_rfl) (by kernel_rfl) (by kernel_rfl) (by kernel_rfl)) ?_
  intro W base args ds gs before hval0 hW hcnd _
  have hval : ∀ (j : Nat) t v, Try.f8.params[j]? = some t → args[j]? = some v → Value.okWide Try.prog W .any base t v := hval0
  have hW' := hW
  obtain ⟨p, q, hA0, hV, rfl, hfz, hnd⟩ := hW
  have hA : DataW.TrodAll enc Try.prog W 0 (fun _ => true) true Try.f8.params.toList args.toList ds p := hA0
  rw [Try.params8] at hA hval
  obtain ⟨v0, vs0, d0, ds0, p0, q0, hargs, rfl, rfl, h0, r0⟩ := trodAll_cons hA
  obtain ⟨v1, vs1, d1, ds1, p1, q1, rfl, rfl, rfl, h1, r1⟩ := trodAll_cons r0
  obtain ⟨v2, vs2, d2, ds2, p2, q2, rfl, rfl, rfl, h2, r2⟩ := trodAll_cons r1
  obtain ⟨v3, vs3, d3, ds3, p3, q3, rfl, rfl, rfl, h3, r3⟩ := trodAll_cons r2
  obtain ⟨rfl, rfl, rfl⟩ := trodAll_nil r3
  obtain rfl : args = #[v0, v1, v2, v3] := by cases args; simp_all
  obtain ⟨rfl, rfl⟩ := trodVars_none hV
  obtain ⟨a0, rfl, rfl, rfl, w0⟩ := open_int Try.underlying5 (hval 0 5 v0 rfl rfl) h0
  obtain ⟨a1, rfl, rfl, rfl, w1⟩ := open_int Try.underlying5 (hval 1 5 v1 rfl rfl) h1
  obtain ⟨a2, rfl, rfl, rfl, w2⟩ := open_int Try.underlying5 (hval 2 5 v2 rfl rfl) h2
  obtain ⟨a3, len3, cap3, rfl⟩ := okWide_slice Try.underlying53 (hval 3 53 v3 rfl rfl)
  have k3 := h3
  have lt3 : ∀ x ∈ p3, x.block < W.heap.size := by obtain ⟨m, hm⟩ := k3; exact DataW.trod_lt m _ _ _ hm
  obtain ⟨z3, w3⟩ : ∃ zs, IsRow .u16 W a3 len3 cap3 zs := by
    obtain ⟨fuel, hf⟩ := h3
    rcases open_ints Try.underlying53 Try.underlying31 (by kernel_rfl) hf with ⟨hcs, _⟩ | ⟨x, l, c, zs, hcs, _, hl, hm, hz, _, hcell, hwz⟩
    · simp [Value.cells] at hcs
      obtain ⟨rfl, rfl, rfl⟩ := hcs
      exact ⟨[], .inl ⟨rfl, rfl, rfl, rfl⟩⟩
    · simp [Value.cells] at hcs
      obtain ⟨rfl, rfl, rfl⟩ := hcs
      exact ⟨zs, .inr ⟨_, rfl, hl, hm, by simpa using hz, hcell, hwz⟩⟩
  clear hA0 hval0
  refine (walk a0 a1 a2 a3 len3 cap3 z3 W w0 w1 w2 w3).mono fun e W' ⟨he, bel⟩ => ?_
  subst he
  exact ⟨_, rfl, _, _, _, [], _, [], hW', trodAll_mk1 (shut_bool Try.underlying4 _), (trodAll_cons_mk (shut_int Try.underlying5 w0) (trodAll_cons_mk (shut_int Try.underlying5 w1) (trodAll_cons_mk (shut_int Try.underlying5 w2) (trodAll_cons_mk (Below.trod laidOut (by kernel_rfl) (of_decide_eq_true (by kernel_rfl)) k3 bel lt3) trodAll_mk0)))), rfl, bel.frame _, fun h => by cases h⟩

theorem over : Rows.paceProgressRow.holds Try.pinned (OpenSpec.ofChange Rows.paceProgressSpec) :=
  OpenClaim.holds_of_wide 8 Try.f8 rfl rfl rfl rfl rfl rfl rfl ⟨rfl, rfl, rfl, rfl, rfl⟩ rfl rfl rfl rfl rfl (by kernel_rfl) Try.func8 (by kernel_rfl)
    (of_decide_eq_true (by kernel_rfl)) (by unfold Func.isWrapper; first | (rw [if_pos (by decide +kernel)]; kernel_rfl) | (rw [if_neg (by decide +kernel)]; exact ⟨rfl, rfl⟩))
    (fun os started H enc _ => lifted os started H enc)

/-- The statement. -/
theorem proved : Rows.PaceProgressSaid := over
#print axioms proved
end Go.Proofs.Ytdjfbojnobjfgaa.paceProgress
