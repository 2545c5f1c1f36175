/- The contracts of rate.Far and of the document's Far. -/
import Derived.Test.YtmlcjmgclfgbiaaRows
import Derived.WalkKit
import Derived.WalkSpells
import Derived.WalkLawsBesides
import Derived.Handy
import Derived.Test.YtmlcjmgclfgbiaaMem
import Derived.Test.YtmlcjmgclfgbiaaFl
import Derived.Test.YtmlcjmgclfgbiaaFlRun
import Derived.Test.YtmlcjmgclfgbiaaBits
namespace Go.Proofs.Ytmlcjmgclfgbiaa
open Go.RowKit
set_option linter.unusedVariables false

open Fl
def FarRel (b : Nat → Nat) (len : Nat) (f i : Value) : Prop :=
  ∃ k : Nat, k ≤ len ∧ i = .int .i64 k ∧ f = .float .f64 (farR b k) ∧ anyN b k = false

set_option maxRecDepth 100000 in
set_option maxHeartbeats 1000000 in
theorem far_any (a : Option Addr) (len cap : Nat) (b : Nat → Nat) (w : World) (h : IsFs w a len b) :
    Calls Try.prog 25 #[.slice a len cap] w fun e w' => e = .returned (.float .f64 (farF b len)) ∧ w = w' := by
  obtain ⟨hl, hb, hc⟩ := h
  have Hc := Lib.hid hc
  have Hb := Lib.hid hb
  clear hc hb
  obtain ⟨v, hv⟩ : ∃ v, farF b len = v := ⟨_, rfl⟩
  rw [hv]
  have Hv := Lib.hid hv
  clear hv
  have Hs : Hid (FarRel b len (.float .f64 0) (.int .i64 0)) := ⟨0, by omega, rfl, rfl, rfl⟩
  go_enter Try.func25, Try.ntmps25
  go_wp2_with fail
  go_loop [3, 8] (fun f i => FarRel b len f i) (fun _ i => len - (intOf i).toNat)
  case atStart => exact Hs.out
  case round =>
    clear Hs
    obtain ⟨k, hk, rfl, rfl, hN⟩ := hrel
    by_cases hlt : k < len
    · obtain ⟨g, off, ha, hglt, hcell⟩ := Hc.out (by omega)
      subst ha
      have hck := hcell k hlt
      have hbk := Hb.out k hlt
      have a1 := (cmp_ne (b k) (b k)).trans (by rw [feq_self, Bool.not_not])
      rcases hn : isN (b k) with _ | _
      · rw [hn] at a1
        obtain ⟨s1, s2, s3, s4⟩ := sub_one hn
        have hfr := farR_le b k (anyN_false.1 hN)
        have e1 : ∀ W : World, (binOp .sub 23 (.float .f64 (b k)) (.float .f64 4607182418800017408)).run Try.prog W = .ok (.float .f64 (dif (b k))) W := fun W => run_float_arith W .sub 23 .f64 _ _ _ s1
        have hN' : anyN b (k + 1) = false := by rw [anyN, hN, hn]; rfl
        have HN : Hid (FarRel b len (.float .f64 (max (farR b k) (dis (b k)))) (.int .i64 ((k : Int) + 1))) := ⟨k + 1, by omega, by go_num, rfl, hN'⟩
        clear s1 hn hN hN' Hc Hb Hv hcell
        go_wp2_with fail
        refine (abs_any _ s4 _).mono ?_
        rintro e w' ⟨rfl, rfl⟩
        go_wp2_with fail
        refine (max_any _ _ hfr s2 _).mono ?_
        rintro e w' ⟨rfl, rfl⟩
        go_wp2_with fail
        exact ⟨HN.out, by simp [intOf]; omega⟩
      · rw [hn] at a1
        have hr : v = 9221120237041090561 := by rw [← Hv.out]; unfold farF; rw [anyN_true hlt hn]; rfl
        subst hr
        clear hn hN Hc Hb hcell Hv
        go_wp2_with fail
        refine (mnan_any _).mono ?_
        rintro e w' ⟨rfl, rfl⟩
        go_wp2_with fail
        go_ret
        exact ⟨rfl, rfl⟩
    · have : k = len := by omega
      subst this
      have hr : farR b k = v := by rw [← Hv.out]; unfold farF; rw [hN]; rfl
      clear Hv Hc Hb hN
      go_wp2_with fail
      go_ret
      exact ⟨rfl, rfl⟩

set_option maxRecDepth 100000 in
set_option maxHeartbeats 1000000 in
theorem far2_any (a : Option Addr) (len cap : Nat) (b : Nat → Nat) (w : World) (h : IsFs w a len b) :
    Calls Try.prog 26 #[.slice a len cap] w fun e w' => ∃ r n, e = .returned (.float .f64 r) ∧ w' = w.drewN n ∧ r < 18446744073709551616 ∧ al (farF b len) r = true := by
  obtain ⟨hl, hb, hc⟩ := h
  have Hc := Lib.hid hc
  have Hb := Lib.hid hb
  clear hc hb
  obtain ⟨v, hv⟩ : ∃ v, farF b len = v := ⟨_, rfl⟩
  rw [hv]
  have Hv := Lib.hid hv
  clear hv
  have Hs : Hid (FarRel b len (.float .f64 0) (.int .i64 0)) := ⟨0, by omega, rfl, rfl, rfl⟩
  go_enter Try.func26, Try.ntmps26
  go_wp2_with fail
  go_loop [3, 4] (fun f i => FarRel b len f i) (fun _ i => len - (intOf i).toNat)
  case atStart => exact Hs.out
  case round =>
    clear Hs
    obtain ⟨k, hk, rfl, rfl, hN⟩ := hrel
    by_cases hlt : k < len
    · obtain ⟨g, off, ha, hglt, hcell⟩ := Hc.out (by omega)
      subst ha
      have hck := hcell k hlt
      have hbk := Hb.out k hlt
      rcases hn : isN (b k) with _ | _
      · obtain ⟨s1, s2, s3, s4⟩ := sub_one hn
        have hfr := farR_le b k (anyN_false.1 hN)
        have e1 : ∀ W : World, (binOp .sub 23 (.float .f64 (b k)) (.float .f64 4607182418800017408)).run Try.prog W = .ok (.float .f64 (dif (b k))) W := fun W => run_float_arith W .sub 23 .f64 _ _ _ s1
        have hN' : anyN b (k + 1) = false := by rw [anyN, hN, hn]; rfl
        have HN : Hid (FarRel b len (.float .f64 (max (farR b k) (dis (b k)))) (.int .i64 ((k : Int) + 1))) := ⟨k + 1, by omega, by go_num, rfl, hN'⟩
        have a1 := (cmp_ne (dif (b k)) (dif (b k))).trans (by rw [feq_self, Bool.not_not])
        rw [s3] at a1
        have a2 := (cmp_lt (dif (b k)) 0).trans (flt_zero s3)
        have hself := word_self _ s4
        rcases hsg : (sg (dif (b k)) && decide (rg (dif (b k)) ≠ 0)) with _ | _
        · rw [hsg] at a2
          have hd : (dif (b k) = dis (b k)) ∨ (sg (dif (b k)) = true ∧ dis (b k) = 0) := by
            rcases hs : sg (dif (b k)) with _ | _
            · left; rw [hs] at hself; exact hself.symm
            · right; rw [hs] at hsg; exact ⟨rfl, by unfold dis; simpa using hsg⟩
          by_cases hgt : farR b k < dis (b k)
          · have hde : dif (b k) = dis (b k) := by omega
            rw [Nat.max_eq_right (Nat.le_of_lt hgt)] at HN
            have a3 := (cmp_gt (dis (b k)) (farR b k)).trans ((flt_small hfr s2).trans (decide_eq_true hgt))
            rw [hde] at e1 a1 a2
            clear s1 hn hN hN' Hc Hb Hv hcell hsg hd hself hde hgt
            go_wp2_with fail
            exact ⟨HN.out, by simp [intOf]; omega⟩
          · rw [Nat.max_eq_left (by omega)] at HN
            have a3 : (FloatKind.f64.format.order (dif (b k)) (farR b k) == some .gt) = false := by
              rw [cmp_gt]
              rcases hd with hd | ⟨hd, hd0⟩
              · rw [hd, flt_small hfr s2]; exact decide_eq_false hgt
              · unfold flt
                have k1 : key (dif (b k)) = 0 := by unfold key; rw [hd]; have : rg (dif (b k)) = 0 := hd0; rw [this]; rfl
                have k2 : 0 ≤ key (farR b k) := by unfold key; rw [small_sg hfr]; simp
                rw [k1]
                have : ¬ key (farR b k) < 0 := by omega
                simp [this]
            clear s1 hn hN hN' Hc Hb Hv hcell hsg hd hself hgt
            go_wp2_with fail
            exact ⟨HN.out, by simp [intOf]; omega⟩
        · rw [hsg] at a2
          rw [Bool.and_eq_true] at hsg
          have e2 : ∀ W : World, (Op.unary .neg (.float .f64 (dif (b k)))).run Try.prog W = .ok (.float .f64 (dis (b k))) W := by
            intro W; have := run_flip (P := Try.prog) W (dif (b k)) s4; rw [hsg.1] at this; exact this
          rcases hgt : decide (farR b k < dis (b k)) with _ | _
          · rw [Nat.max_eq_left (by simpa using hgt)] at HN
            have a3 := (cmp_gt (dis (b k)) (farR b k)).trans ((flt_small hfr s2).trans hgt)
            clear s1 hn hN hN' Hc Hb Hv hcell hsg hself hgt
            go_wp2_with fail
            exact ⟨HN.out, by simp [intOf]; omega⟩
          · rw [Nat.max_eq_right (by have := of_decide_eq_true hgt; omega)] at HN
            have a3 := (cmp_gt (dis (b k)) (farR b k)).trans ((flt_small hfr s2).trans hgt)
            clear s1 hn hN hN' Hc Hb Hv hcell hsg hself hgt
            go_wp2_with fail
            exact ⟨HN.out, by simp [intOf]; omega⟩
      · have e1 : ∀ W : World, (binOp .sub 23 (.float .f64 (b k)) (.float .f64 4607182418800017408)).run Try.prog W = .ok (.float .f64 (nanOf W (b k) 4607182418800017408)) W.drew := fun W => run_nan W .sub 23 _ _ (by simp) (sub_nan hn)
        have hr : isN v = true := by rw [← Hv.out]; unfold farF; rw [anyN_true hlt hn, if_pos rfl]; decide
        obtain ⟨n1, n2⟩ := nanOf_is w (b k) 4607182418800017408
        have a1 := (cmp_ne (nanOf w (b k) 4607182418800017408) (nanOf w (b k) 4607182418800017408)).trans (by rw [feq_self, Bool.not_not])
        rw [n1] at a1
        have hal := al_nan hr n1
        clear hn hN Hc Hb hcell Hv
        go_wp2_with fail
        go_ret
        exact ⟨_, rfl, ⟨1, rfl⟩, n2, hal⟩
    · have : k = len := by omega
      subst this
      have hr : farR b k = v := by rw [← Hv.out]; unfold farF; rw [hN]; rfl
      have hvlt : v < 18446744073709551616 := by have := farR_le b k (anyN_false.1 hN); have hi : inf = 9218868437227405312 := rfl; omega
      clear Hv Hc Hb hN
      go_wp2_with fail
      go_ret
      exact ⟨_, rfl, ⟨0, rfl⟩, hvlt, al_self _⟩
