/- ClockWorst returns true at every input, and its arguments read as they did: no condition. -/
import Derived.Test.YtmlcjmgclfgbiaaRows
import Derived.WalkKit
import Derived.ProofKit
import Derived.OpenShut
import Derived.ShutString
import Derived.ChangeOld
import Derived.Below
import Derived.WalkSpells
import Derived.WalkLawsBesides
import Derived.Handy
import Derived.Test.YtmlcjmgclfgbiaaMem
import Derived.Test.YtmlcjmgclfgbiaaFl
import Derived.Test.YtmlcjmgclfgbiaaFlRun
import Derived.Test.YtmlcjmgclfgbiaaClean
import Derived.Test.YtmlcjmgclfgbiaaMove
import Derived.Test.YtmlcjmgclfgbiaaRateW
import Derived.Test.YtmlcjmgclfgbiaaCopy
import Derived.Test.YtmlcjmgclfgbiaaHand
import Derived.Test.YtmlcjmgclfgbiaaTwo
import Derived.Test.YtmlcjmgclfgbiaaClkA
import Derived.Test.YtmlcjmgclfgbiaaClk
import Derived.Test.YtmlcjmgclfgbiaaPassC
import Derived.Test.YtmlcjmgclfgbiaaAw3
import Derived.Test.YtmlcjmgclfgbiaaWorstP
namespace Go.Proofs.Ytmlcjmgclfgbiaa.clockWorst
open Go.ChangeShapes Go.WideShapes Go.ChangeAt Go.RowKit
open Go.ChangeMaps (open_string shut_string)
set_option linter.unusedVariables false

open Fl
def WorstRel (B g hb len : Nat) (w : World) (v6 v7 : Value) (wr : World) : Prop :=
  ∃ (k : Nat) (nw : Nat → Int) (r : Nat → Nat) (ref wo : Int), k ≤ len ∧ v7 = .int .i64 k ∧ v6 = .int .i64 wo ∧ ClockIs wr g hb 2 nw r ref wo ∧ (∀ i, i < 2 → 0 ≤ nw i ∧ nw i ≤ 16000 * (k : Int)) ∧ (∀ i, r i ≤ 4613936718729445376) ∧ 0 ≤ ref ∧ ref ≤ 1000 * (k : Int) ∧ 0 ≤ wo ∧ wo ≤ 1001 ∧ Below B w wr ∧ B ≤ wr.heap.size
def InRel (r : Nat → Nat) (p wo : Int) (v6 v11 : Value) : Prop := ∃ j : Nat, j ≤ 2 ∧ v11 = .int .i64 j ∧ v6 = .int .i64 (wF r p wo j)
def UpRel (x0 lf : Int) (v6 : Value) : Prop := ∃ x : Int, x0 ≤ x ∧ x ≤ max x0 lf ∧ v6 = .int .i64 x
theorem upd_le {r : Nat → Nat} {j q b : Nat} (h : ∀ i, r i ≤ b) (hq : q ≤ b) (i : Nat) : upd r j q i ≤ b := by
  unfold upd; split
  · exact hq
  · exact h i
set_option maxRecDepth 100000 in
set_option maxHeartbeats 4000000 in
theorem walk (a0 : Option Addr) (len0 cap0 : Nat) (z0 : List Int) (a1 : Option Addr) (len1 cap1 : Nat) (z1 : List Int) (w : World) (w0 : IsRow .u16 w a0 len0 cap0 z0) (w1 : IsRow .u16 w a1 len1 cap1 z1) :
    Calls Try.prog 13 #[.slice a0 len0 cap0, .slice a1 len1 cap1] w fun e w' => e = .returned (.bool true) ∧ Below w.heap.size w w' := by
  obtain ⟨hl0, hwz0, hc0⟩ := w0.at
  obtain ⟨hl1, hwz1, hc1⟩ := w1.at
  clear w0 w1
  have Hc0 := Lib.hid hc0
  have Hc1 := Lib.hid hc1
  have Hz0 := Lib.hid hwz0
  have Hz1 := Lib.hid hwz1
  clear hc0 hc1 hwz0 hwz1
  by_cases h40 : 40 < len1
  · go_enter Try.func13, Try.ntmps13
    go_wp2_with fail
    refine (awake3_any _).mono ?_
    rintro e w1 ⟨rfl, hg⟩
    go_wp2_with fail
    go_ret
    exact ⟨rfl, below_only (Below.refl _ _) (Nat.le_refl _) hg (by simp)⟩
  · have h40' : len1 ≤ 40 := by omega
    clear h40
    by_cases hll : len0 < len1
    · go_enter Try.func13, Try.ntmps13
      go_wp2_with fail
      refine (awake3_any _).mono ?_
      rintro e w1 ⟨rfl, hg⟩
      go_wp2_with fail
      go_ret
      exact ⟨rfl, below_only (Below.refl _ _) (Nat.le_refl _) hg (by simp)⟩
    · have hll' : len1 ≤ len0 := by omega
      clear hll
      go_enter Try.func13, Try.ntmps13
      go_wp2_with fail
      refine (new_any 2 _).mono ?_
      rw [show countF 2 = 2 by decide]
      rintro e w1 ⟨g, hb, rfl, hc, hg, hl1', hl2'⟩
      have HS : Hid (WorstRel w.heap.size g hb len1 w (.int .i64 0) (.int .i64 0) w1) := ⟨0, _, _, 0, 0, by omega, rfl, rfl, hc, fun i _ => by omega, fun i => by omega, by omega, by omega, by omega, by omega, below_only (Below.refl _ _) (Nat.le_refl _) hg (by simp), hg.size⟩
      clear hc hg
      go_wp2_with fail
      go_loopw [6, 7] (fun v6 v7 wr => WorstRel w.heap.size g hb len1 w v6 v7 wr) (fun _ v7 _ => len1 - (intOf v7).toNat)
      case atStart => exact HS.out
      case round =>
        clear HS
        obtain ⟨k, nw, r, ref, wo, hk, rfl, rfl, hcl, hnw, hr, hf1, hf2, ho1, ho2, hbel, hsz⟩ := hrel
        have HC := Lib.hid hcl
        have HNw := Lib.hid hnw
        have HR := Lib.hid hr
        have HB := Lib.hid hbel
        clear hcl hnw hr hbel
        by_cases hlt : k < len1
        · obtain ⟨g0, o0, ha0, hg0, hce0⟩ := Hc0.out (by omega)
          obtain ⟨g1, o1, ha1, hg1, hce1⟩ := Hc1.out (by omega)
          subst ha0
          subst ha1
          have c0 := row_below hce0 HB.out hg0 k (by omega)
          have hz0 := bounds_u16 (Hz0.out k (by omega))
          have hz1 := bounds_u16 (Hz1.out k hlt)
          have Hce1 := Lib.hid hce1
          clear hce0 hce1
          have hi0 : (0 : Int) ≤ (k : Int) := by omega
          have hi1 : (k : Int) < (len0 : Int) := by omega
          have hi2 : (k : Int) < (len1 : Int) := by omega
          obtain ⟨j, hj⟩ : ∃ j : Nat, (k : Int) % 2 = (j : Int) := ⟨k % 2, by omega⟩
          have hj2 : j < 2 := by omega
          obtain ⟨a, ha⟩ : ∃ a : Nat, zat z0 k % 3000 = (a : Int) := ⟨(zat z0 k % 3000).toNat, by omega⟩
          obtain ⟨q, hq1, hq2⟩ := quo1000 a (by omega)
          rw [← ha] at hq1
          have e1 : ∀ W : World, (binOp .quo 23 (.float .f64 (floatOfInt .f64 (zat z0 k % 3000))) (.float .f64 4652007308841189376)).run Try.prog W = .ok (.float .f64 q) W := fun W => run_float_arith W .quo 23 .f64 _ _ _ hq1
          have HJ := Lib.hid hj
          clear hj hq1 ha
          go_wp2_with fail
          rw [HJ.out]
          refine (set_yes HC.out (by omega) j q hj2).mono ?_
          rintro e w2 ⟨rfl, hc2, hg2⟩
          have HC2 := Lib.hid hc2
          have hb2 := below_only HB.out hsz hg2 (by intro g' e; injection e with e; omega)
          have c1 := row_below Hce1.out hb2 hg1 k hlt
          have hsz2 : w.heap.size ≤ w2.heap.size := by have := hg2.size; omega
          have HB2 := Lib.hid hb2
          have HR2 := Lib.hid (upd_le (j := j) (q := cl q) HR.out (cl_Rb hq2))
          clear hc2 hb2 hg2 e1 c0
          generalize upd r j (cl q) = r2 at *
          obtain ⟨p, hp⟩ : ∃ p, 1 + zat z1 k % 1000 = p := ⟨_, rfl⟩
          have hp1 : 1 ≤ p := by omega
          have hp2 : p ≤ 1000 := by omega
          have HP := Lib.hid hp
          clear hp
          go_wp2_with fail
          rw [HP.out]
          refine (pass_yes g hb 2 nw r2 ref wo p _ HC2.out (by omega) (fun i hi => by have := HNw.out i hi; omega) (fun i _ => by have := HR2.out i; omega) (by omega) (by omega) hp1 hp2).mono ?_
          rintro e w3 ⟨rfl, hc3, hb3, ho3⟩
          have HC3 := Lib.hid hc3
          have HM3 := Lib.hid hb3
          have hb4 := Only2.below HB2.out hsz2 ho3 (by omega) (by omega)
          have HB3 := Lib.hid hb4
          have hsz3 : w.heap.size ≤ w3.heap.size := by have := ho3.size; omega
          clear hc3 hb3 ho3 hb4 c1
          have HI : Hid (InRel r2 p wo (.int .i64 wo) (.int .i64 0)) := ⟨0, by omega, rfl, rfl⟩
          go_wp2_with fail
          go_loop [6, 11] (fun v6 v11 => InRel r2 p wo v6 v11) (fun _ v11 => 2 - (intOf v11).toNat)
          case atStart => exact HI.out
          case round =>
            clear HI
            obtain ⟨t, ht, rfl, rfl⟩ := hrel
            have hwb := wF_bd (r := r2) hp1 ho1 ho2 t
            by_cases ht2 : t < 2
            · have hm := mvI_bd (r := r2) (n := p) (i := t) (by have := HR2.out t; omega)
              have cm : w3.cell? ⟨w2.heap.size, t, none⟩ = some (.int .i64 (mvI r2 p t)) := (HM3.out.cell t).trans (by rw [intA_get, if_pos ht2])
              have hlb := leastF_bd (n := p) (m := mvI r2 p t) hp1
              have hnext : wF r2 p wo (t + 1) = max (wF r2 p wo t) (leastF p (mvI r2 p t)) := rfl
              have hwl : ∀ x, 0 ≤ x → x ≤ 1000 → withinB p (mvI r2 p t) x = decide (leastF p (mvI r2 p t) ≤ x) := fun x a b => within_least hp1 hp2 hm.1 hm.2 a b
              have HWL := Lib.hid hwl
              have HNx := Lib.hid hnext
              clear hwl hnext
              generalize mvI r2 p t = m at *
              generalize leastF p m = lf at *
              generalize hx0 : wF r2 p wo t = x0 at *
              clear hx0
              have HU : Hid (UpRel x0 lf (.int .i64 x0)) := ⟨x0, by omega, by omega, rfl⟩
              have hj0 : (0 : Int) ≤ (t : Int) := by omega
              have hj1 : (t : Int) < 2 := by omega
              go_wp2_with fail
              go_loop [6] (fun v6 => UpRel x0 lf v6) (fun v6 => (1002 - intOf v6).toNat)
              case atStart => exact HU.out
              case round =>
                clear HU
                obtain ⟨x, hx1, hx2, rfl⟩ := hrel
                have hx3 : 0 ≤ x := by omega
                have hx4 : x ≤ 1001 := by omega
                have HE : Hid (lf ≤ x → InRel r2 p wo (.int .i64 x) (.int .i64 ((t : Int) + 1))) := fun h => ⟨t + 1, by omega, by go_num, by rw [HNx.out]; congr 1; omega⟩
                by_cases hx5 : x ≤ 1000
                · have hxb : decide (x ≤ 1000) = true := decide_eq_true hx5
                  by_cases hlx : lf ≤ x
                  · have HW1 : Hid (withinB p m x = true) := by rw [HWL.out x hx3 hx5]; exact decide_eq_true hlx
                    go_wp2_with fail
                    refine (within_any _ _ _ _).mono ?_
                    rw [HW1.out]
                    rintro e w4 ⟨rfl, rfl⟩
                    go_wp2_with fail
                    exact ⟨HE.out hlx, by simp [intOf]; omega⟩
                  · have HW1 : Hid (withinB p m x = false) := by rw [HWL.out x hx3 hx5]; exact decide_eq_false hlx
                    have HU2 : Hid (UpRel x0 lf (.int .i64 (x + 1))) := ⟨x + 1, by omega, by omega, rfl⟩
                    go_wp2_with fail
                    refine (within_any _ _ _ _).mono ?_
                    rw [HW1.out]
                    rintro e w4 ⟨rfl, rfl⟩
                    go_wp2_with fail
                    exact ⟨HU2.out, by simp [intOf]; omega⟩
                · have hxb : decide (x ≤ 1000) = false := decide_eq_false hx5
                  have hx6 : 1000 < x := by omega
                  go_wp2_with fail
                  exact ⟨HE.out (by omega), by simp [intOf]; omega⟩
            · have : t = 2 := by omega
              subst this
              have HN : Hid (WorstRel w.heap.size g hb len1 w (.int .i64 (wF r2 p wo 2)) (.int .i64 ((k : Int) + 1)) w3) :=
                ⟨k + 1, _, r2, _, _, by omega, by go_num, rfl, HC3.out, fun i hi => by have := HNw.out i hi; have := mvI_bd (r := r2) (n := p) (i := i) (by have := HR2.out i; omega); omega, HR2.out, by omega, by omega, hwb.1, hwb.2, HB3.out, hsz3⟩
              go_wp2_with fail
              refine (worst_any HC3.out).mono ?_
              rintro e w4 ⟨rfl, rfl⟩
              go_wp2_with fail
              exact ⟨HN.out, by simp [intOf]; omega⟩
        · have : k = len1 := by omega
          subst this
          go_wp2_with fail
          refine (set_yes HC.out (by omega) 0 0 (by omega)).mono ?_
          rintro e w2 ⟨rfl, hc2, hg2⟩
          have HC2 := Lib.hid hc2
          have hb2 := below_only HB.out hsz hg2 (by intro g' e; injection e with e; omega)
          have hsz2 : w.heap.size ≤ w2.heap.size := by have := hg2.size; omega
          have HB2 := Lib.hid hb2
          have HR2 := Lib.hid (upd_le (j := 0) (q := cl 0) HR.out (cl_Rb (by omega)))
          have hz : upd r 0 (cl 0) 0 = 0 := by rw [upd_same]; decide
          generalize upd r 0 (cl 0) = r2 at *
          have hw2 := worst_end wo hz (HR2.out 1)
          obtain ⟨x, hx⟩ : ∃ x, (if wo < 1000 then 1000 else wo) = x := ⟨_, rfl⟩
          rw [hx] at hw2
          have HW2 := Lib.hid hw2
          clear hc2 hb2 hg2 hz hw2
          go_wp2_with fail
          refine (pass_yes g hb 2 nw r2 ref wo 1 _ HC2.out (by omega) (fun i hi => by have := HNw.out i hi; omega) (fun i _ => by have := HR2.out i; omega) (by omega) (by omega) (by omega) (by omega)).mono ?_
          rintro e w3 ⟨rfl, hc3, hb3, ho3⟩
          rw [HW2.out] at hc3
          have HC3 := Lib.hid hc3
          have HB3 := Lib.hid (Only2.below HB2.out hsz2 ho3 (by omega) (by omega))
          have hsz3 : w.heap.size ≤ w3.heap.size := by have := ho3.size; omega
          clear hc3 hb3 ho3
          go_wp2_with fail
          refine (worst_any HC3.out).mono ?_
          rintro e w4 ⟨rfl, rfl⟩
          go_wp2_with fail
          refine (awake3_any _).mono ?_
          rintro e w5 ⟨rfl, hg5⟩
          go_wp2_with fail
          go_ret
          exact ⟨rfl, below_only HB3.out hsz3 hg5 (by simp)⟩

theorem own : ownKnob Try.prog.godebug = none := by kernel_rfl
theorem laidOut : laidOutB Try.prog = true := by kernel_rfl

set_option maxRecDepth 100000 in
theorem lifted (os : Os) (started : os.Started) (H : Type) (enc : TypeId × Value → H) :
    ReturnsInHanded {} Try.checked os 13 .any (Rows.clockWorstSpec.pre6 enc Try.prog Try.f13 Rows.clockWorstRow.domain false) (Rows.clockWorstSpec.post enc Try.prog Try.f13 false true false false) := by
  refine returnsInHanded_of_change (C := Try.checked) own started (by kernel_rfl) Try.func13
    (ChangeSpec.witness6 (enc := enc) (C := Try.checked) false ⟨#[], #[.slice none 0 0, .slice none 0 0], []⟩ 8 (by kernel_rfl) (by kernel_rfl) (by kernel_rfl) (by kernel_rfl)) ?_
  intro W base args ds gs before hval0 hW hcnd _
  have hval : ∀ (j : Nat) t v, Try.f13.params[j]? = some t → args[j]? = some v → Value.okWide Try.prog W .any base t v := hval0
  have hW' := hW
  obtain ⟨p, q, hA0, hV, rfl, hfz, hnd⟩ := hW
  have hA : DataW.TrodAll enc Try.prog W 0 (fun _ => true) true Try.f13.params.toList args.toList ds p := hA0
  rw [Try.params13] at hA hval
  obtain ⟨v0, vs0, d0, ds0, p0, q0, hargs, rfl, rfl, h0, r0⟩ := trodAll_cons hA
  obtain ⟨v1, vs1, d1, ds1, p1, q1, rfl, rfl, rfl, h1, r1⟩ := trodAll_cons r0
  obtain ⟨rfl, rfl, rfl⟩ := trodAll_nil r1
  obtain rfl : args = #[v0, v1] := by cases args; simp_all
  obtain ⟨rfl, rfl⟩ := trodVars_none hV
  obtain ⟨a0, len0, cap0, rfl⟩ := okWide_slice Try.underlying67 (hval 0 67 v0 rfl rfl)
  have k0 := h0
  have lt0 : ∀ x ∈ p0, x.block < W.heap.size := by obtain ⟨m, hm⟩ := k0; exact DataW.trod_lt m _ _ _ hm
  obtain ⟨z0, w0⟩ : ∃ zs, IsRow .u16 W a0 len0 cap0 zs := by
    obtain ⟨fuel, hf⟩ := h0
    rcases open_ints Try.underlying67 Try.underlying37 (by kernel_rfl) hf with ⟨hcs, _⟩ | ⟨x, l, c, zs, hcs, _, hl, hm, hz, _, hcell, hwz⟩
    · simp [Value.cells] at hcs
      obtain ⟨rfl, rfl, rfl⟩ := hcs
      exact ⟨[], .inl ⟨rfl, rfl, rfl, rfl⟩⟩
    · simp [Value.cells] at hcs
      obtain ⟨rfl, rfl, rfl⟩ := hcs
      exact ⟨zs, .inr ⟨_, rfl, hl, hm, by simpa using hz, hcell, hwz⟩⟩
  obtain ⟨a1, len1, cap1, rfl⟩ := okWide_slice Try.underlying67 (hval 1 67 v1 rfl rfl)
  have k1 := h1
  have lt1 : ∀ x ∈ p1, x.block < W.heap.size := by obtain ⟨m, hm⟩ := k1; exact DataW.trod_lt m _ _ _ hm
  obtain ⟨z1, w1⟩ : ∃ zs, IsRow .u16 W a1 len1 cap1 zs := by
    obtain ⟨fuel, hf⟩ := h1
    rcases open_ints Try.underlying67 Try.underlying37 (by kernel_rfl) hf with ⟨hcs, _⟩ | ⟨x, l, c, zs, hcs, _, hl, hm, hz, _, hcell, hwz⟩
    · simp [Value.cells] at hcs
      obtain ⟨rfl, rfl, rfl⟩ := hcs
      exact ⟨[], .inl ⟨rfl, rfl, rfl, rfl⟩⟩
    · simp [Value.cells] at hcs
      obtain ⟨rfl, rfl, rfl⟩ := hcs
      exact ⟨zs, .inr ⟨_, rfl, hl, hm, by simpa using hz, hcell, hwz⟩⟩
  clear hA0 hval0
  refine (walk a0 len0 cap0 z0 a1 len1 cap1 z1 W w0 w1).mono fun e W' ⟨he, bel⟩ => ?_
  subst he
  exact ⟨_, rfl, _, _, _, [], _, [], hW', trodAll_mk1 (shut_bool Try.underlying4 _), (trodAll_cons_mk (Below.trod laidOut (by kernel_rfl) (of_decide_eq_true (by kernel_rfl)) k0 bel lt0) (trodAll_cons_mk (Below.trod laidOut (by kernel_rfl) (of_decide_eq_true (by kernel_rfl)) k1 bel lt1) trodAll_mk0)), rfl, bel.frame _, fun h => by cases h⟩

theorem over : Rows.clockWorstRow.holds Try.pinned (OpenSpec.ofChange Rows.clockWorstSpec) :=
  OpenClaim.holds_of_wide 13 Try.f13 rfl rfl rfl rfl rfl rfl rfl ⟨rfl, rfl, rfl, rfl, rfl⟩ rfl rfl rfl rfl rfl (by kernel_rfl) Try.func13 (by kernel_rfl)
    (of_decide_eq_true (by kernel_rfl)) (by unfold Func.isWrapper; first | (rw [if_pos (by decide +kernel)]; kernel_rfl) | (rw [if_neg (by decide +kernel)]; exact ⟨rfl, rfl⟩))
    (fun os started H enc _ => lifted os started H enc)

/-- The statement. -/
theorem proved : Rows.ClockWorstSaid := over
#print axioms proved
end Go.Proofs.Ytmlcjmgclfgbiaa.clockWorst
