/- RateOf returns true at every input, and its arguments read as they did: no condition. -/
import Derived.Test.YtmlcjmgclfgbiaaRows
import Derived.WalkKit
import Derived.ProofKit
import Derived.OpenShut
import Derived.ShutString
import Derived.ChangeOld
import Derived.Below
import Derived.WalkSpells
import Derived.WalkLawsBesides
import Derived.Handy
import Derived.Deep.QuietTactic
import Derived.BigQuiet
import Derived.Test.YtmlcjmgclfgbiaaMem
import Derived.Test.YtmlcjmgclfgbiaaFl
import Derived.Test.YtmlcjmgclfgbiaaFlRun
import Derived.Test.YtmlcjmgclfgbiaaClean
import Derived.Test.YtmlcjmgclfgbiaaMove
import Derived.Test.YtmlcjmgclfgbiaaOf
import Derived.Test.YtmlcjmgclfgbiaaBits
import Derived.Test.YtmlcjmgclfgbiaaFar
import Derived.Test.YtmlcjmgclfgbiaaRateW
import Derived.Test.YtmlcjmgclfgbiaaAw2
import Derived.Test.YtmlcjmgclfgbiaaApp
import Derived.Test.YtmlcjmgclfgbiaaInf
import Derived.Test.YtmlcjmgclfgbiaaNear
import Derived.Test.YtmlcjmgclfgbiaaOf2
namespace Go.Proofs.Ytmlcjmgclfgbiaa.rateOf
open Go.ChangeShapes Go.WideShapes Go.ChangeAt Go.RowKit
open Go.ChangeMaps (open_string shut_string)
set_option linter.unusedVariables false

open Fl
theorem infoF : (Try.prog.info? 23).map (fun i => (i.zero, i.size, i.bytes)) = some (some (.float .f64 0), 1, 8) := by kernel_rfl
def OfRel (B len : Nat) (b : Nat → Nat) (w : World) (v i : Value) (wr : World) : Prop :=
  ∃ k : Nat, k ≤ len ∧ i = .int .i64 k ∧ wr.ownsRow B 23 1 v k (fsL b k) ∧ Below B w wr ∧ B ≤ wr.heap.size
def OneRel (len : Nat) (b : Nat → Nat) (W : World) (one i : Value) (wr : World) : Prop := ∃ j : Nat, j ≤ len ∧ i = .int .i64 j ∧ one = .bool (oneB b len j) ∧ W.grownBy wr none
theorem i_up : flt 9218868437227405311 9218868437227405312 = true := by decide
theorem i_down : flt 9218868437227405311 (word (!sg 18442240474082181120) (rg 18442240474082181120)) = true := by decide

set_option maxRecDepth 100000 in
set_option maxHeartbeats 4000000 in
theorem walk (a0 a1 : Int) (a2 : Option Addr) (len2 cap2 : Nat) (z2 : List Int) (a3 : Int) (w : World) (w0 : (Lit.int .u16 a0).wf = true) (w1 : (Lit.int .u16 a1).wf = true) (w2 : IsRow .u64 w a2 len2 cap2 z2) (w3 : (Lit.int .u8 a3).wf = true) :
    Calls Try.prog 8 #[.int .u16 a0, .int .u16 a1, .slice a2 len2 cap2, .int .u8 a3] w fun e w' => e = .returned (.bool true) ∧ Below w.heap.size w w' := by
  have h0 := bounds_u16 w0
  have h1 := bounds_u16 w1
  obtain ⟨hl, hwz, hc⟩ := w2.at
  clear w0 w1 w2 w3
  obtain ⟨b, hb⟩ : ∃ b : Nat → Nat, ∀ i, (zat z2 i).toNat = b i := ⟨fun i => (zat z2 i).toNat, fun i => rfl⟩
  have hb2 : ∀ i, i < len2 → b i < 18446744073709551616 := fun i hi => by have := bounds_u64 (hwz i hi); rw [← hb]; omega
  have Hc := Lib.hid hc
  have Hb := Lib.hid hb
  have Hb2 := Lib.hid hb2
  clear hc hwz hb hb2
  by_cases h40 : 30 < len2
  · go_enter Try.func8, Try.ntmps8
    go_wp2_with fail
    refine (awake2_any _).mono ?_
    rintro e w1 ⟨rfl, hg⟩
    go_wp2_with fail
    go_ret
    exact ⟨rfl, below_only (Below.refl _ _) (Nat.le_refl _) hg (by simp)⟩
  · have h40' : len2 ≤ 30 := by omega
    clear h40
    obtain ⟨k, hk⟩ : ∃ k : Nat, a0 % 1000 + 1 = (k : Int) := ⟨(a0 % 1000 + 1).toNat, by omega⟩
    obtain ⟨m, hm⟩ : ∃ m : Nat, a1 % 2000 = (m : Int) := ⟨(a1 % 2000).toNat, by omega⟩
    have hk1 : 1 ≤ k := by omega
    have hk2 : k ≤ 1000 := by omega
    have hm2 : m < 2000 := by omega
    obtain ⟨q, x, y, n1, n2, n3, hy1, hy2⟩ := near k m hk1 hk2 hm2
    have hi : inf = 9218868437227405312 := rfl
    have a1' : (FloatKind.f64.format.order (rg y) 4517329193108106637 == some .gt) = false := by
      rw [cmp_gt, flt_small (by omega) (by omega)]; exact decide_eq_false (by omega)
    have Hq := Lib.hid n1
    have e2 : ∀ W : World, (binOp .mul 23 (.float .f64 q) (.float .f64 (floatOfInt .f64 (k : Int)))).run Try.prog W = .ok (.float .f64 x) W := fun W => run_float_arith W .mul 23 .f64 _ _ _ n2
    have e3 : ∀ W : World, (binOp .sub 23 (.float .f64 x) (.float .f64 (floatOfInt .f64 (m : Int)))).run Try.prog W = .ok (.float .f64 y) W := fun W => run_float_arith W .sub 23 .f64 _ _ _ n3
    have Hk := Lib.hid hk
    have Hm := Lib.hid hm
    have Hs : ∀ n, Hid (OfRel w.heap.size len2 b w (.slice none 0 0) (.int .i64 0) (w.drewN n)) := fun n => ⟨0, by omega, rfl, World.ownsRow_nil _ _ _ _, below_drewN (Below.refl _ _) n, Nat.le_refl _⟩
    clear n1 n2 n3 hk hm hy2 hi
    go_enter Try.func8, Try.ntmps8
    go_wp2_with fail
    rw [Hk.out, Hm.out]
    refine (of_some _ _ _ Hq.out _).mono ?_
    rintro e w1 ⟨rfl, rfl⟩
    go_wp2_with fail
    refine (abs_any _ hy1 _).mono ?_
    rintro e w1 ⟨rfl, rfl⟩
    go_wp2_with fail
    refine (of_some _ _ _ (of_up hm2) _).mono ?_
    rintro e w1 ⟨rfl, rfl⟩
    go_wp2_with fail
    refine (isinf_up _ _).mono ?_
    rw [i_up]
    rintro e w1 ⟨rfl, rfl⟩
    go_wp2_with fail
    refine (of_some _ _ _ (of_down hm2) _).mono ?_
    rintro e w1 ⟨rfl, rfl⟩
    go_wp2_with fail
    refine (isinf_down _ (by omega) _).mono ?_
    rw [i_down]
    rintro e w1 ⟨rfl, rfl⟩
    go_wp2_with fail
    refine (of_any 0 0 _).mono ?_
    rw [of_00]
    rintro e w1 ⟨r, n, rfl, rfl, hr1, hr2⟩
    have hr2' : isN r = true := hr2
    go_wp2_with fail
    refine (isnan_any _ _).mono ?_
    rw [hr2']
    rintro e w1 ⟨rfl, rfl⟩
    clear hr2 hr2' hr1 a1' e2 e3
    go_wp2_with fail
    go_loopw [12, 13] (fun v i wr => OfRel w.heap.size len2 b w v i wr) (fun _ i _ => len2 - (intOf i).toNat)
    case atStart => exact (Hs _).out
    case round =>
      clear Hs
      obtain ⟨j, hj, rfl, ho, hbel, hsz⟩ := hrel
      have Ho := Lib.hid ho
      have Hbel := Lib.hid hbel
      clear ho hbel
      by_cases hlt : j < len2
      · obtain ⟨g, off, ha, hglt, hcell⟩ := Hc.out (by omega)
        subst ha
        have hc1 := row_below hcell Hbel.out hglt j hlt
        clear hcell
        have hi0 : (0 : Int) ≤ (j : Int) := by omega
        have hi1 : (j : Int) < (len2 : Int) := by omega
        go_wp2_with fail
        refine (float_any _ _).mono ?_
        rintro e w1 ⟨rfl, rfl⟩
        rw [Hb.out]
        go_wp2_with (at_builtin; refine wpList_append1 rfl (.tmp 66) (.tmp 72) 33 rfl w.heap.size 23 (.float .f64 0) 8 Try.underlying33 infoF rfl _ j _ rfl wr Ho.out _ rfl rfl rfl (by omega) (by omega) hsz ?_; intro v' w1 hw hg hat; rw [fsL_succ] at hw; have HN : Hid (OfRel w.heap.size len2 b w v' (.int .i64 ((j : Int) + 1)) w1) := ⟨j + 1, by omega, by go_num, hw, Hbel.out.grown hg hsz (own_ge Ho.out), by have := hg.size; omega⟩; clear hw hg hat hc1)
        exact ⟨HN.out, by simp [intOf]; omega⟩
      · have : j = len2 := by omega
        subst this
        obtain ⟨wo, rfl⟩ : ∃ wo : World, wo = wr := ⟨_, rfl⟩
        obtain ⟨a4, c4, rfl, h4⟩ := own_fs Ho.out Hb2.out (by omega)
        have H4 := Lib.hid h4
        clear h4
        obtain ⟨v, hv⟩ : ∃ v, farF b j = v := ⟨_, rfl⟩
        have Hv := Lib.hid hv
        clear hv
        have HS : Hid (OneRel j b wo (.bool (oneB b j 0)) (.int .i64 0) wo) := ⟨0, by omega, rfl, rfl, only_refl _ _⟩
        have Hend := Lib.hid (one_end b j)
        have sb := signbit_any 0 (by omega)
        rw [show sg 0 = false by decide] at sb
        have Hsb := Lib.hid sb
        clear sb
        have hj0 : (j = 0 ∧ v = 0 ∧ oneB b j 0 = true) ∨ (((j : Int) == 0) = false ∧ oneB b j 0 = false) := by
          by_cases h : j = 0
          · left; subst h; exact ⟨rfl, by rw [← Hv.out]; rfl, rfl⟩
          · right; exact ⟨by rw [beq_eq_false_iff_ne]; omega, decide_eq_false h⟩
        have z0 : (FloatKind.f64.format.order 0 0 == some .eq) = true := by decide
        go_wp2_with fail
        refine (far_any _ _ _ _ _ H4.out).mono ?_
        rw [Hv.out]
        rintro e w1 ⟨rfl, rfl⟩
        rcases hj0 with ⟨hj1, hv1, ho1⟩ | ⟨hj1, ho1⟩
        · subst hj1
          subst hv1
          rw [ho1] at HS
          clear ho1
          go_wp2_with fail
          refine (Hsb.out _).mono ?_
          rintro e w1 ⟨rfl, rfl⟩
          go_wp2_with fail
          go_loopw [15, 16] (fun o i W => OneRel 0 b wo o i W) (fun _ i _ => 0 - (intOf i).toNat)
          case atStart => exact HS.out
          case round =>
            clear HS
            obtain ⟨jj, hjj, rfl, rfl, hg⟩ := hrel
            have hjj0 : jj = 0 := by omega
            subst hjj0
            rw [Hend.out]
            have Hg := Lib.hid hg
            clear hg
            go_wp2_with fail
            refine (awake2_any _).mono ?_
            rintro e w1 ⟨rfl, hg2⟩
            go_wp2_with fail
            go_ret
            exact ⟨rfl, below_only (below_only Hbel.out hsz Hg.out (by simp)) (by have := Hg.out.size; omega) hg2 (by simp)⟩
        · rw [ho1] at HS
          clear ho1
          go_wp2_with fail
          go_loopw [15, 16] (fun o i W => OneRel j b wo o i W) (fun _ i _ => j - (intOf i).toNat)
          case atStart => exact HS.out
          case round =>
            clear HS
            obtain ⟨jj, hjj, rfl, rfl, hg⟩ := hrel
            have Hg := Lib.hid hg
            clear hg
            by_cases hlt2 : jj < j
            · obtain ⟨g4, o4, ha4, hg4, hc4⟩ := (H4.out.kept Hg.out).2.2 (by omega)
              subst ha4
              have c4 := hc4 jj hlt2
              have hbj := Hb2.out jj hlt2
              have hnl := far_not_less (b := b) hlt2
              have hfn : isN (b jj) = true → v = 9221120237041090561 := fun h => by rw [← Hv.out]; exact farF_nan hlt2 h
              rw [Hv.out] at hnl
              have Hrow := Lib.hid (row_one wr (b jj) hbj)
              have hone : oneB b j (jj + 1) = (oneB b j jj || al (xF (b jj)) v) := by rw [← Hv.out]; rfl
              have HR : ∀ t, (oneB b j jj || al (xF (b jj)) v) = t → Hid (OneRel j b wo (.bool t) (.int .i64 ((jj : Int) + 1)) (wr.alloc (.cells #[.float .f64 (b jj)] 23))) := fun t ht => ⟨jj + 1, by omega, by go_num, by rw [hone, ht], only_alloc Hg.out _⟩
              clear hc4 hone
              have hx : isN (xF (b jj)) = isN (b jj) := by
                rcases h : isN (b jj) with _ | _
                · rw [xF_num h]; exact small_isN (sub_one h).2.1
                · rw [xF_nan h]; exact nanB
              have e1 : farF (fun _ => b jj) 1 = xF (b jj) := rfl
              generalize b jj = c at *
              generalize hxx : xF c = x1 at *
              have t1 := (cmp_gt x1 v).trans hnl
              have t2 := (cmp_ne x1 x1).trans (by rw [feq_self, Bool.not_not, hx])
              have t3 := (cmp_eq v v).trans (feq_self v)
              have E1 := Lib.hid e1
              clear e1 hnl hx hxx
              have hi0 : (0 : Int) ≤ (jj : Int) := by omega
              have hi1 : (jj : Int) < (j : Int) := by omega
              rcases hn : isN c with _ | _
              · rw [hn] at t2
                clear hfn t3 hn
                rcases ho : oneB b j jj with _ | _
                · rw [ho] at HR
                  clear ho
                  have HN := HR _ rfl
                  rw [Bool.false_or] at HN
                  clear HR
                  go_wp2_with fail
                  refine (far_any _ 1 1 _ _ Hrow.out).mono ?_
                  rw [E1.out]
                  rintro e w1 ⟨rfl, rfl⟩
                  go_wp2_with fail
                  refine (alike_any _ _ _).mono ?_
                  rintro e w1 ⟨rfl, rfl⟩
                  go_wp2_with fail
                  exact ⟨HN.out, by simp [intOf]; omega⟩
                · rw [ho] at HR
                  clear ho
                  have HN := HR true rfl
                  clear HR
                  go_wp2_with fail
                  refine (far_any _ 1 1 _ _ Hrow.out).mono ?_
                  rw [E1.out]
                  rintro e w1 ⟨rfl, rfl⟩
                  go_wp2_with fail
                  exact ⟨HN.out, by simp [intOf]; omega⟩
              · rw [hn] at t2
                have hv2 := hfn hn
                have n3 : isN v = true := by rw [hv2]; exact nanB
                rw [n3] at t3
                simp only [Bool.not_true] at t3
                clear hfn hn hv2 n3
                rcases ho : oneB b j jj with _ | _
                · rw [ho] at HR
                  clear ho
                  have HN := HR _ rfl
                  rw [Bool.false_or] at HN
                  clear HR
                  go_wp2_with fail
                  refine (far_any _ 1 1 _ _ Hrow.out).mono ?_
                  rw [E1.out]
                  rintro e w1 ⟨rfl, rfl⟩
                  go_wp2_with fail
                  refine (alike_any _ _ _).mono ?_
                  rintro e w1 ⟨rfl, rfl⟩
                  go_wp2_with fail
                  exact ⟨HN.out, by simp [intOf]; omega⟩
                · rw [ho] at HR
                  clear ho
                  have HN := HR true rfl
                  clear HR
                  go_wp2_with fail
                  refine (far_any _ 1 1 _ _ Hrow.out).mono ?_
                  rw [E1.out]
                  rintro e w1 ⟨rfl, rfl⟩
                  go_wp2_with fail
                  exact ⟨HN.out, by simp [intOf]; omega⟩
            · have hjj0 : jj = j := by omega
              subst hjj0
              rw [Hend.out]
              go_wp2_with fail
              refine (awake2_any _).mono ?_
              rintro e w1 ⟨rfl, hg2⟩
              go_wp2_with fail
              go_ret
              exact ⟨rfl, below_only (below_only Hbel.out hsz Hg.out (by simp)) (by have := Hg.out.size; omega) hg2 (by simp)⟩

theorem own : ownKnob Try.prog.godebug = none := by kernel_rfl
theorem laidOut : laidOutB Try.prog = true := by kernel_rfl

set_option maxRecDepth 100000 in
theorem lifted (os : Os) (started : os.Started) (H : Type) (enc : TypeId × Value → H) :
    ReturnsInHanded {} Try.checked os 8 .any (Rows.rateOfSpec.pre6 enc Try.prog Try.f8 Rows.rateOfRow.domain false) (Rows.rateOfSpec.post enc Try.prog Try.f8 false true false false) := by
  refine returnsInHanded_of_change (C := Try.checked) own started (by kernel_rfl) Try.func8
    (ChangeSpec.witness6 (enc := enc) (C := Try.checked) false ⟨#[], #[.int .u16 0, .int .u16 0, .slice none 0 0, .int .u8 0], []⟩ 8 (by kernel_rfl) (by kernel_rfl) (by kernel_rfl) (by kernel_rfl)) ?_
  intro W base args ds gs before hval0 hW hcnd _
  have hval : ∀ (j : Nat) t v, Try.f8.params[j]? = some t → args[j]? = some v → Value.okWide Try.prog W .any base t v := hval0
  have hW' := hW
  obtain ⟨p, q, hA0, hV, rfl, hfz, hnd⟩ := hW
  have hA : DataW.TrodAll enc Try.prog W 0 (fun _ => true) true Try.f8.params.toList args.toList ds p := hA0
  rw [Try.params8] at hA hval
  obtain ⟨v0, vs0, d0, ds0, p0, q0, hargs, rfl, rfl, h0, r0⟩ := trodAll_cons hA
  obtain ⟨v1, vs1, d1, ds1, p1, q1, rfl, rfl, rfl, h1, r1⟩ := trodAll_cons r0
  obtain ⟨v2, vs2, d2, ds2, p2, q2, rfl, rfl, rfl, h2, r2⟩ := trodAll_cons r1
  obtain ⟨v3, vs3, d3, ds3, p3, q3, rfl, rfl, rfl, h3, r3⟩ := trodAll_cons r2
  obtain ⟨rfl, rfl, rfl⟩ := trodAll_nil r3
  obtain rfl : args = #[v0, v1, v2, v3] := by cases args; simp_all
  obtain ⟨rfl, rfl⟩ := trodVars_none hV
  obtain ⟨a0, rfl, rfl, rfl, w0⟩ := open_int Try.underlying37 (hval 0 37 v0 rfl rfl) h0
  obtain ⟨a1, rfl, rfl, rfl, w1⟩ := open_int Try.underlying37 (hval 1 37 v1 rfl rfl) h1
  obtain ⟨a2, len2, cap2, rfl⟩ := okWide_slice Try.underlying32 (hval 2 32 v2 rfl rfl)
  have k2 := h2
  have lt2 : ∀ x ∈ p2, x.block < W.heap.size := by obtain ⟨m, hm⟩ := k2; exact DataW.trod_lt m _ _ _ hm
  obtain ⟨z2, w2⟩ : ∃ zs, IsRow .u64 W a2 len2 cap2 zs := by
    obtain ⟨fuel, hf⟩ := h2
    rcases open_ints Try.underlying32 Try.underlying22 (by kernel_rfl) hf with ⟨hcs, _⟩ | ⟨x, l, c, zs, hcs, _, hl, hm, hz, _, hcell, hwz⟩
    · simp [Value.cells] at hcs
      obtain ⟨rfl, rfl, rfl⟩ := hcs
      exact ⟨[], .inl ⟨rfl, rfl, rfl, rfl⟩⟩
    · simp [Value.cells] at hcs
      obtain ⟨rfl, rfl, rfl⟩ := hcs
      exact ⟨zs, .inr ⟨_, rfl, hl, hm, by simpa using hz, hcell, hwz⟩⟩
  obtain ⟨a3, rfl, rfl, rfl, w3⟩ := open_int Try.underlying5 (hval 3 5 v3 rfl rfl) h3
  clear hA0 hval0
  refine (walk a0 a1 a2 len2 cap2 z2 a3 W w0 w1 w2 w3).mono fun e W' ⟨he, bel⟩ => ?_
  subst he
  exact ⟨_, rfl, _, _, _, [], _, [], hW', trodAll_mk1 (shut_bool Try.underlying4 _), (trodAll_cons_mk (shut_int Try.underlying37 w0) (trodAll_cons_mk (shut_int Try.underlying37 w1) (trodAll_cons_mk (Below.trod laidOut (by kernel_rfl) (of_decide_eq_true (by kernel_rfl)) k2 bel lt2) (trodAll_cons_mk (shut_int Try.underlying5 w3) trodAll_mk0)))), rfl, bel.frame _, fun h => by cases h⟩

theorem over : Rows.rateOfRow.holds Try.pinned (OpenSpec.ofChange Rows.rateOfSpec) :=
  OpenClaim.holds_of_wide 8 Try.f8 rfl rfl rfl rfl rfl rfl rfl ⟨rfl, rfl, rfl, rfl, rfl⟩ rfl rfl rfl rfl rfl (by kernel_rfl) Try.func8 (by kernel_rfl)
    (of_decide_eq_true (by kernel_rfl)) (by unfold Func.isWrapper; first | (rw [if_pos (by decide +kernel)]; kernel_rfl) | (rw [if_neg (by decide +kernel)]; exact ⟨rfl, rfl⟩))
    (fun os started H enc _ => lifted os started H enc)

/-- The statement. -/
theorem proved : Rows.RateOfSaid := over
#print axioms proved
end Go.Proofs.Ytmlcjmgclfgbiaa.rateOf
