/- ClockDrift returns true at every input, and its arguments read as they did: no condition. -/
import Derived.Test.YtmlcjmgclfgbiaaRows
import Derived.WalkKit
import Derived.ProofKit
import Derived.OpenShut
import Derived.ShutString
import Derived.ChangeOld
import Derived.Below
import Derived.WalkSpells
import Derived.WalkLawsBesides
import Derived.Handy
import Derived.Deep.QuietTactic
import Derived.BigQuiet
import Derived.Test.YtmlcjmgclfgbiaaMem
import Derived.Test.YtmlcjmgclfgbiaaFl
import Derived.Test.YtmlcjmgclfgbiaaFlRun
import Derived.Test.YtmlcjmgclfgbiaaClean
import Derived.Test.YtmlcjmgclfgbiaaMove
import Derived.Test.YtmlcjmgclfgbiaaRateW
import Derived.Test.YtmlcjmgclfgbiaaCopy
import Derived.Test.YtmlcjmgclfgbiaaHand
import Derived.Test.YtmlcjmgclfgbiaaTwo
import Derived.Test.YtmlcjmgclfgbiaaClkA
import Derived.Test.YtmlcjmgclfgbiaaClk
import Derived.Test.YtmlcjmgclfgbiaaPassC
import Derived.Test.YtmlcjmgclfgbiaaAw3
import Derived.Test.YtmlcjmgclfgbiaaWorstP
import Derived.Test.YtmlcjmgclfgbiaaDriftP
import Derived.Test.YtmlcjmgclfgbiaaTri
namespace Go.Proofs.Ytmlcjmgclfgbiaa.clockDrift
open Go.ChangeShapes Go.WideShapes Go.ChangeAt Go.RowKit
open Go.ChangeMaps (open_string shut_string)
set_option linter.unusedVariables false

open Fl
def was3 (x y z : Int) : Nat → Int := fun i => if i = 0 then x else if i = 1 then y else z
def DriftRel (B g hb wb a b : Nat) (w : World) (v13 v14 : Value) (wr : World) : Prop :=
  ∃ (k : Nat) (nw : Nat → Int) (r : Nat → Nat) (ref wo ref0 x y z : Int), k ≤ b ∧ v14 = .int .i64 k ∧ v13 = .int .i64 ref0 ∧ ClockIs wr g hb 3 nw r ref wo ∧ Blk wr wb 69 #[.int .i64 x, .int .i64 y, .int .i64 z] ∧ (∀ i, i < 3 → 0 ≤ nw i ∧ nw i ≤ 16000 * (k : Int)) ∧ (∀ i, r i < 18446744073709551616) ∧ 0 ≤ ref ∧ ref ≤ 1000 * (k : Int) ∧ 0 ≤ wo ∧ wo ≤ 1001 ∧ (a < k → Since nw (was3 x y z) ref ref0 wo) ∧ Below B w wr ∧ B ≤ wr.heap.size
theorem upd_lt {r : Nat → Nat} {j q b : Nat} (h : ∀ i, r i < b) (hq : q < b) (i : Nat) : upd r j q i < b := by
  unfold upd; split
  · exact hq
  · exact h i
def D2Rel (W : World) (v : Value) (wr : World) : Prop := ∃ j n : Nat, j ≤ 3 ∧ v = .int .i64 j ∧ wr = W.drewN n
set_option maxRecDepth 100000 in
set_option maxHeartbeats 4000000 in
theorem walk (a0 : Option Addr) (len0 cap0 : Nat) (z0 : List Int) (a1 : Option Addr) (len1 cap1 : Nat) (z1 : List Int) (a2 a3 : Int) (w : World) (w0 : IsRow .u16 w a0 len0 cap0 z0) (w1 : IsRow .u16 w a1 len1 cap1 z1) (w2 : (Lit.int .u8 a2).wf = true) (w3 : (Lit.int .u8 a3).wf = true) :
    Calls Try.prog 12 #[.slice a0 len0 cap0, .slice a1 len1 cap1, .int .u8 a2, .int .u8 a3] w fun e w' => e = .returned (.bool true) ∧ Below w.heap.size w w' := by
  obtain ⟨hl0, hwz0, hc0⟩ := w0.at
  obtain ⟨hl1, hwz1, hc1⟩ := w1.at
  have hb2 := bounds_u8 w2
  have hb3 := bounds_u8 w3
  clear w0 w1 w2 w3
  have Hc0 := Lib.hid hc0
  have Hc1 := Lib.hid hc1
  have Hz0 := Lib.hid hwz0
  have Hz1 := Lib.hid hwz1
  clear hc0 hc1 hwz0 hwz1
  by_cases h40 : 40 < len1
  · go_enter Try.func12, Try.ntmps12
    go_wp2_with fail
    refine (awake3_any _).mono ?_
    rintro e w1 ⟨rfl, hg⟩
    go_wp2_with fail
    go_ret
    exact ⟨rfl, below_only (Below.refl _ _) (Nat.le_refl _) hg (by simp)⟩
  · have h40' : len1 ≤ 40 := by omega
    clear h40
    have hz : ((len1 : Int) + 1 == 0) = false := by rw [beq_eq_false_iff_ne]; omega
    have m1 := Int.emod_nonneg a2 (b := (len1 : Int) + 1) (by omega)
    have m2 := Int.emod_lt_of_pos a2 (b := (len1 : Int) + 1) (by omega)
    have m3 := Int.emod_nonneg a3 (b := (len1 : Int) + 1) (by omega)
    have m4 := Int.emod_lt_of_pos a3 (b := (len1 : Int) + 1) (by omega)
    obtain ⟨x0, hx0⟩ : ∃ x0 : Int, a2 % ((len1 : Int) + 1) = x0 := ⟨_, rfl⟩
    obtain ⟨y0, hy0⟩ : ∃ y0 : Int, a3 % ((len1 : Int) + 1) = y0 := ⟨_, rfl⟩
    rw [hx0] at m1 m2
    rw [hy0] at m3 m4
    obtain ⟨a, ha⟩ : ∃ a : Nat, (if y0 < x0 then y0 else x0) = (a : Int) := ⟨(if y0 < x0 then y0 else x0).toNat, by omega⟩
    obtain ⟨b, hb⟩ : ∃ b : Nat, (if x0 < y0 then y0 else x0) = (b : Int) := ⟨(if x0 < y0 then y0 else x0).toNat, by omega⟩
    have hab : a ≤ b := by omega
    have hbl : b ≤ len1 := by omega
    have HX := Lib.hid hx0
    have HY := Lib.hid hy0
    clear hx0 hy0
    go_enter Try.func12, Try.ntmps12
    go_wp2_with fail
    refine (new_any 3 _).mono ?_
    rw [show countF 3 = 3 by decide]
    rintro e w1 ⟨g, hb', rfl, hc, hg, hl1', hl2'⟩
    have HC1 := Lib.hid hc
    have HG1 := Lib.hid hg
    clear hc hg
    go_wp2_with fail
    go_quiet (fail)
    rw [HX.out, HY.out]
    go_wp2_with fail
    have HS : Hid (DriftRel w.heap.size g hb' w1.heap.size a b w (.int .i64 0) (.int .i64 0) ((w1.drewN nq).alloc (.cells #[.int .i64 0, .int .i64 0, .int .i64 0] 69))) :=
      ⟨0, _, _, 0, 0, 0, 0, 0, 0, by omega, rfl, rfl, ⟨(HC1.out.1.drewN nq).alloc _, (HC1.out.2.drewN nq).alloc _⟩, by simpa using Blk.new (w1.drewN nq) 69 #[.int .i64 0, .int .i64 0, .int .i64 0], fun i _ => by omega, fun i => by omega, by omega, by omega, by omega, by omega, fun h => by omega, below_only (below_drewN (below_only (Below.refl _ _) (Nat.le_refl _) HG1.out (by simp)) nq) HG1.out.size (World.grownBy_alloc _ _ none) (by simp), by have := HG1.out.size; simp; omega⟩
    have hgw : g < w1.heap.size := HC1.out.1.lt
    have hhw : hb' < w1.heap.size := HC1.out.2.lt
    go_loopw [13, 14] (fun v13 v14 wr => DriftRel w.heap.size g hb' w1.heap.size a b w v13 v14 wr) (fun _ v14 _ => b - (intOf v14).toNat)
    case atStart => exact HS.out
    case round =>
      clear HS
      obtain ⟨k, nw, r, ref, wo, ref0, x, y, z, hk, rfl, rfl, hcl, hwb, hnw, hr, hf1, hf2, ho1, ho2, hsi, hbel, hsz⟩ := hrel
      have HC := Lib.hid hcl
      have HW := Lib.hid hwb
      have HNw := Lib.hid hnw
      have HR := Lib.hid hr
      have HSi := Lib.hid hsi
      have HB := Lib.hid hbel
      clear hcl hwb hnw hr hsi hbel
      by_cases hlt : k < b
      · obtain ⟨g1, o1, ha1, hg1, hce1⟩ := Hc1.out (by omega)
        subst ha1
        have Hce1 := Lib.hid hce1
        clear hce1
        have hz1 := bounds_u16 (Hz1.out k (by omega))
        obtain ⟨p, hp⟩ : ∃ p, 1 + zat z1 k % 1000 = p := ⟨_, rfl⟩
        have hp1 : 1 ≤ p := by omega
        have hp2 : p ≤ 1000 := by omega
        have HP := Lib.hid hp
        clear hp
        have hi0 : (0 : Int) ≤ (k : Int) := by omega
        have hi2 : (k : Int) < (len1 : Int) := by omega
        have hi3 : (k : Int) < (b : Int) := by omega
        by_cases hka : k = a
        · subst hka
          have n0 := HNw.out 0 (by omega)
          have n1 := HNw.out 1 (by omega)
          have n2 := HNw.out 2 (by omega)
          have f0 : wr.frozen? ⟨w1.heap.size, 0, none⟩ = false := HW.out.free 0
          have f1 : wr.frozen? ⟨w1.heap.size, 1, none⟩ = false := HW.out.free 1
          have f2 : wr.frozen? ⟨w1.heap.size, 2, none⟩ = false := HW.out.free 2
          have q0 : wr.cell? ⟨w1.heap.size, 0, none⟩ = some (.int .i64 x) := HW.out.cell 0
          have q1 : wr.cell? ⟨w1.heap.size, 1, none⟩ = some (.int .i64 y) := HW.out.cell 1
          have q2 : wr.cell? ⟨w1.heap.size, 2, none⟩ = some (.int .i64 z) := HW.out.cell 2
          go_wp2_with fail
          refine (now_yes HC.out (by omega) 0 (by omega)).mono ?_
          rintro e w4 ⟨rfl, rfl⟩
          go_wp2_with fail
          refine (now_yes HC.out (by omega) 1 (by omega)).mono ?_
          rintro e w4 ⟨rfl, rfl⟩
          go_wp2_with fail
          refine (now_yes HC.out (by omega) 2 (by omega)).mono ?_
          rintro e w4 ⟨rfl, rfl⟩
          go_wp2_with fail
          have h34 := set3 HW.out (.int .i64 (nw 0)) (.int .i64 (nw 1)) (.int .i64 (nw 2))
          generalize ((wr.setCell ⟨w1.heap.size, 0, none⟩ (.int .i64 (nw 0))).setCell ⟨w1.heap.size, 1, none⟩ (.int .i64 (nw 1))).setCell ⟨w1.heap.size, 2, none⟩ (.int .i64 (nw 2)) = w4 at h34 ⊢
          obtain ⟨hW4, hg4⟩ := h34
          have HC4 : Hid (ClockIs w4 g hb' 3 nw r ref wo) := ⟨HC.out.1.kept hg4 (by intro e; injection e with e; omega), HC.out.2.kept hg4 (by intro e; injection e with e; omega)⟩
          have HW4 := Lib.hid hW4
          have hb4 := below_only HB.out hsz hg4 (by intro g' e; injection e with e; have := HC1.out.1.lt; omega)
          have hsz4 : w.heap.size ≤ w4.heap.size := by have := hg4.size; omega
          have HB4 := Lib.hid hb4
          have hs4 := since_start (nw := nw) (ref := ref) (wo := wo) hf1 (fun i hi => (HNw.out i hi).1)
          have HS4 : Hid (k ≤ k → Since nw (was3 (nw 0) (nw 1) (nw 2)) ref ref wo) := fun _ => ⟨hs4.1, hs4.2.1, fun i hi => by
            have e : was3 (nw 0) (nw 1) (nw 2) i = nw i := by
              have : i = 0 ∨ i = 1 ∨ i = 2 := by omega
              rcases this with rfl | rfl | rfl <;> rfl
            rw [e]; exact hs4.2.2 i hi⟩
          clear hg4 hW4 hb4 hs4 n0 n1 n2 f0 f1 f2 q0 q1 q2
          go_wp2_with fail
          refine (ref_any HC4.out).mono ?_
          rintro e w5 ⟨rfl, rfl⟩
          by_cases hl0 : k < len0
          · obtain ⟨g0, o0, ha0, hg0, hce0⟩ := Hc0.out (by omega)
            subst ha0
            have c0 := row_below hce0 HB4.out hg0 k hl0
            clear hce0
            have hz0 := bounds_u16 (Hz0.out k hl0)
            have hi1 : (k : Int) < (len0 : Int) := by omega
            obtain ⟨j, hj⟩ : ∃ j : Nat, (k : Int) % 3 = (j : Int) := ⟨k % 3, by omega⟩
            have hj2 : j < 3 := by omega
            obtain ⟨c, hcc⟩ : ∃ c : Nat, zat z0 k % 2400 = (c : Int) := ⟨(zat z0 k % 2400).toNat, by omega⟩
            obtain ⟨q, hq1, hq2⟩ := quo1000 c (by omega)
            rw [← hcc] at hq1
            have e1 : ∀ W : World, (binOp .quo 23 (.float .f64 (floatOfInt .f64 (zat z0 k % 2400))) (.float .f64 4652007308841189376)).run Try.prog W = .ok (.float .f64 q) W := fun W => run_float_arith W .quo 23 .f64 _ _ _ hq1
            have HJ := Lib.hid hj
            clear hj hq1 hcc
            go_wp2_with fail
            rw [HJ.out]
            refine (set_yes HC4.out (by omega) j q hj2).mono ?_
            rintro e w6 ⟨rfl, hc6, hg6⟩
            have HC6 := Lib.hid hc6
            have HW6 := Lib.hid (HW4.out.kept hg6 (by intro e; injection e with e; omega))
            have HB6 := Lib.hid (below_only HB4.out hsz4 hg6 (by intro g' e; injection e with e; omega))
            have hsz6 : w.heap.size ≤ w6.heap.size := by have := hg6.size; omega
            have HR6 := Lib.hid (upd_lt (j := j) (q := cl q) HR.out (by have := cl_Rb hq2; omega))
            clear hc6 hg6 e1 c0
            generalize upd r j (cl q) = r6 at *
            have c1 := row_below Hce1.out HB6.out hg1 k (by omega)
            go_wp2_with fail
            rw [HP.out]
            refine (pass_yes g hb' 3 nw r6 ref wo p _ HC6.out (by omega) (fun i hi => by have := HNw.out i hi; omega) (fun i _ => HR6.out i) (by omega) (by omega) hp1 hp2).mono ?_
            rintro e w7 ⟨rfl, hc7, hb7, ho7⟩
            have hwb7 := wF_bd (r := r6) hp1 ho1 ho2 3
            have HN : Hid (DriftRel w.heap.size g hb' w1.heap.size k b w (.int .i64 ref) (.int .i64 ((k : Int) + 1)) w7) :=
              ⟨k + 1, _, r6, _, _, ref, (nw 0), (nw 1), (nw 2), by omega, by go_num, rfl, hc7, HW6.out.kept2 ho7 (by omega) (by omega), fun i hi => by have := HNw.out i hi; have := mvI_bd (r := r6) (n := p) (i := i) (HR6.out i); show _ ∧ nw i + mvI r6 p i ≤ _; constructor <;> (try show (0 : Int) ≤ nw i + mvI r6 p i) <;> omega, HR6.out, by omega, by omega, hwb7.1, hwb7.2, fun h => since_pass (HS4.out (by omega)) HR6.out hp1 hp2 ho1 ho2, Only2.below HB6.out hsz6 ho7 (by omega) (by omega), by have := ho7.size; omega⟩
            clear hc7 hb7 ho7 c1
            go_wp2_with fail
            exact ⟨HN.out, by simp [intOf]; omega⟩
          · have hl1 : len0 ≤ k := by omega
            have c1 := row_below Hce1.out HB4.out hg1 k (by omega)
            go_wp2_with fail
            rw [HP.out]
            refine (pass_yes g hb' 3 nw r ref wo p _ HC4.out (by omega) (fun i hi => by have := HNw.out i hi; omega) (fun i _ => HR.out i) (by omega) (by omega) hp1 hp2).mono ?_
            rintro e w7 ⟨rfl, hc7, hb7, ho7⟩
            have hwb7 := wF_bd (r := r) hp1 ho1 ho2 3
            have HN : Hid (DriftRel w.heap.size g hb' w1.heap.size k b w (.int .i64 ref) (.int .i64 ((k : Int) + 1)) w7) :=
              ⟨k + 1, _, r, _, _, ref, (nw 0), (nw 1), (nw 2), by omega, by go_num, rfl, hc7, HW4.out.kept2 ho7 (by omega) (by omega), fun i hi => by have := HNw.out i hi; have := mvI_bd (r := r) (n := p) (i := i) (HR.out i); show _ ∧ nw i + mvI r p i ≤ _; constructor <;> (try show (0 : Int) ≤ nw i + mvI r p i) <;> omega, HR.out, by omega, by omega, hwb7.1, hwb7.2, fun h => since_pass (HS4.out (by omega)) HR.out hp1 hp2 ho1 ho2, Only2.below HB4.out hsz4 ho7 (by omega) (by omega), by have := ho7.size; omega⟩
            clear hc7 hb7 ho7 c1
            go_wp2_with fail
            exact ⟨HN.out, by simp [intOf]; omega⟩
        · have HS5 : Hid (a ≤ k → Since nw (was3 x y z) ref ref0 wo) := fun h => HSi.out (by omega)
          have hkb : ((k : Int) == (a : Int)) = false := by rw [beq_eq_false_iff_ne]; omega
          have hka' : ¬ ((k : Int) = (a : Int)) := by omega
          by_cases hl0 : k < len0
          · obtain ⟨g0, o0, ha0, hg0, hce0⟩ := Hc0.out (by omega)
            subst ha0
            have c0 := row_below hce0 HB.out hg0 k hl0
            clear hce0
            have hz0 := bounds_u16 (Hz0.out k hl0)
            have hi1 : (k : Int) < (len0 : Int) := by omega
            obtain ⟨j, hj⟩ : ∃ j : Nat, (k : Int) % 3 = (j : Int) := ⟨k % 3, by omega⟩
            have hj2 : j < 3 := by omega
            obtain ⟨c, hcc⟩ : ∃ c : Nat, zat z0 k % 2400 = (c : Int) := ⟨(zat z0 k % 2400).toNat, by omega⟩
            obtain ⟨q, hq1, hq2⟩ := quo1000 c (by omega)
            rw [← hcc] at hq1
            have e1 : ∀ W : World, (binOp .quo 23 (.float .f64 (floatOfInt .f64 (zat z0 k % 2400))) (.float .f64 4652007308841189376)).run Try.prog W = .ok (.float .f64 q) W := fun W => run_float_arith W .quo 23 .f64 _ _ _ hq1
            have HJ := Lib.hid hj
            clear hj hq1 hcc
            go_wp2_with fail
            rw [HJ.out]
            refine (set_yes HC.out (by omega) j q hj2).mono ?_
            rintro e w6 ⟨rfl, hc6, hg6⟩
            have HC6 := Lib.hid hc6
            have HW6 := Lib.hid (HW.out.kept hg6 (by intro e; injection e with e; omega))
            have HB6 := Lib.hid (below_only HB.out hsz hg6 (by intro g' e; injection e with e; omega))
            have hsz6 : w.heap.size ≤ w6.heap.size := by have := hg6.size; omega
            have HR6 := Lib.hid (upd_lt (j := j) (q := cl q) HR.out (by have := cl_Rb hq2; omega))
            clear hc6 hg6 e1 c0
            generalize upd r j (cl q) = r6 at *
            have c1 := row_below Hce1.out HB6.out hg1 k (by omega)
            go_wp2_with fail
            rw [HP.out]
            refine (pass_yes g hb' 3 nw r6 ref wo p _ HC6.out (by omega) (fun i hi => by have := HNw.out i hi; omega) (fun i _ => HR6.out i) (by omega) (by omega) hp1 hp2).mono ?_
            rintro e w7 ⟨rfl, hc7, hb7, ho7⟩
            have hwb7 := wF_bd (r := r6) hp1 ho1 ho2 3
            have HN : Hid (DriftRel w.heap.size g hb' w1.heap.size a b w (.int .i64 ref0) (.int .i64 ((k : Int) + 1)) w7) :=
              ⟨k + 1, _, r6, _, _, ref0, x, y, z, by omega, by go_num, rfl, hc7, HW6.out.kept2 ho7 (by omega) (by omega), fun i hi => by have := HNw.out i hi; have := mvI_bd (r := r6) (n := p) (i := i) (HR6.out i); show _ ∧ nw i + mvI r6 p i ≤ _; constructor <;> (try show (0 : Int) ≤ nw i + mvI r6 p i) <;> omega, HR6.out, by omega, by omega, hwb7.1, hwb7.2, fun h => since_pass (HS5.out (by omega)) HR6.out hp1 hp2 ho1 ho2, Only2.below HB6.out hsz6 ho7 (by omega) (by omega), by have := ho7.size; omega⟩
            clear hc7 hb7 ho7 c1
            go_wp2_with fail
            exact ⟨HN.out, by simp [intOf]; omega⟩
          · have hl1 : len0 ≤ k := by omega
            have c1 := row_below Hce1.out HB.out hg1 k (by omega)
            go_wp2_with fail
            rw [HP.out]
            refine (pass_yes g hb' 3 nw r ref wo p _ HC.out (by omega) (fun i hi => by have := HNw.out i hi; omega) (fun i _ => HR.out i) (by omega) (by omega) hp1 hp2).mono ?_
            rintro e w7 ⟨rfl, hc7, hb7, ho7⟩
            have hwb7 := wF_bd (r := r) hp1 ho1 ho2 3
            have HN : Hid (DriftRel w.heap.size g hb' w1.heap.size a b w (.int .i64 ref0) (.int .i64 ((k : Int) + 1)) w7) :=
              ⟨k + 1, _, r, _, _, ref0, x, y, z, by omega, by go_num, rfl, hc7, HW.out.kept2 ho7 (by omega) (by omega), fun i hi => by have := HNw.out i hi; have := mvI_bd (r := r) (n := p) (i := i) (HR.out i); show _ ∧ nw i + mvI r p i ≤ _; constructor <;> (try show (0 : Int) ≤ nw i + mvI r p i) <;> omega, HR.out, by omega, by omega, hwb7.1, hwb7.2, fun h => since_pass (HS5.out (by omega)) HR.out hp1 hp2 ho1 ho2, Only2.below HB.out hsz ho7 (by omega) (by omega), by have := ho7.size; omega⟩
            clear hc7 hb7 ho7 c1
            go_wp2_with fail
            exact ⟨HN.out, by simp [intOf]; omega⟩
      · have : k = b := by omega
        subst this
        by_cases hka : a = k
        · subst hka
          go_wp2_with fail
          refine (awake3_any _).mono ?_
          rintro e w5 ⟨rfl, hg5⟩
          go_wp2_with fail
          go_ret
          exact ⟨rfl, below_only HB.out hsz hg5 (by simp)⟩
        · have hkb : ((a : Int) == (k : Int)) = false := by rw [beq_eq_false_iff_ne]; omega
          have hka' : ¬ ((a : Int) = (k : Int)) := by omega
          have hs := Lib.hid (HSi.out (by omega))
          have hs1 := hs.out.1
          have hs2 := hs.out.2.1
          obtain ⟨wx, rfl⟩ : ∃ wx : World, wx = wr := ⟨_, rfl⟩
          have HD : Hid (D2Rel wx (.int .i64 0) wx) := ⟨0, 0, by omega, rfl, rfl⟩
          go_wp2_with fail
          refine (ref_any HC.out).mono ?_
          rintro e w5 ⟨rfl, rfl⟩
          go_wp2_with fail
          refine (worst_any HC.out).mono ?_
          rintro e w5 ⟨rfl, rfl⟩
          go_wp2_with fail
          go_loopw [17] (fun v wr => D2Rel wx v wr) (fun v _ => 3 - (intOf v).toNat)
          case atStart => exact HD.out
          case round =>
            clear HD
            obtain ⟨j, n, hj, rfl, hW⟩ := hrel
            have HWx := Lib.hid hW
            clear hW
            by_cases hj3 : j < 3
            · obtain ⟨u1, u2, u3⟩ := hs.out.2.2 j hj3
              have hn1 := HNw.out j hj3
              have HU := Lib.hid u3
              clear u3
              have cw : wr.cell? ⟨w1.heap.size, j, none⟩ = some (.int .i64 (was3 x y z j)) := by
                rw [HWx.out]
                refine (HW.out.cell j).trans ?_
                have : j = 0 ∨ j = 1 ∨ j = 2 := by omega
                rcases this with rfl | rfl | rfl <;> rfl
              have HCr : Hid (ClockIs wr g hb' 3 nw r ref wo) := by rw [HWx.out]; exact ⟨HC.out.1.drewN n, HC.out.2.drewN n⟩
              generalize was3 x y z j = wa at *
              obtain ⟨nj, hnj⟩ : ∃ nj, nw j = nj := ⟨_, rfl⟩
              have hnow : ∀ m, Calls Try.prog 44 #[.pointer (some ⟨g, 0, none⟩), .int .i64 (j : Int)] (wr.drewN m) fun e w' => e = .returned (.int .i64 nj) ∧ wr.drewN m = w' := fun m => by
                rw [← hnj]; exact now_yes (w := wr.drewN m) ⟨HCr.out.1.drewN m, HCr.out.2.drewN m⟩ (by omega) j hj3
              rw [hnj] at u2 hn1 HU
              have HNow := Lib.hid hnow
              have hdw : IntKind.i64.wrap (nj - wa) = nj - wa := by rw [IntKind.wrap_i64]; omega
              have hdec : decide (nj < wa) = false := decide_eq_false (by omega)
              have hj0 : (0 : Int) ≤ (j : Int) := by omega
              have hj1 : (j : Int) < 3 := by omega
              have HN : ∀ m, Hid (D2Rel wx (.int .i64 ((j : Int) + 1)) (wr.drewN m)) := fun m => ⟨j + 1, n + m, by omega, by go_num, by rw [HWx.out]; exact drewN_add3 _ _ _⟩
              have HWi : Hid (wo ≤ 1000 → ∀ m, Calls Try.prog 20 #[.int .i64 (ref - ref0), .int .i64 (nj - wa), .int .i64 wo] (wr.drewN m) fun e w' => e = .returned (.bool true) ∧ wr.drewN m = w') := fun h m => by
                have e : withinB (ref - ref0) (nj - wa) wo = true := near_within HU.out (by omega) (by omega) (by omega) (by omega) ho1 h
                rw [← e]; exact within_any _ _ _ _
              clear hnj hnow
              by_cases hwo : wo ≤ 1000
              · have hb1 : decide (wo ≤ 1000) = true := decide_eq_true hwo
                have HWj := Lib.hid (HWi.out hwo)
                clear HWi
                go_wp2_with fail
                go_quiet ((first | (go_at_call 44; exact quiet_left (HNow.out _)) | (go_at_call 20; exact quiet_left (HWj.out _))))
                go_wp2_with fail
                exact ⟨(HN _).out, by simp [intOf]; omega⟩
              · have hb1 : decide (wo ≤ 1000) = false := decide_eq_false hwo
                clear HWi
                go_wp2_with fail
                go_quiet ((first | (go_at_call 44; exact quiet_left (HNow.out _))))
                go_wp2_with fail
                exact ⟨(HN _).out, by simp [intOf]; omega⟩
            · go_wp2_with fail
              refine (awake3_any _).mono ?_
              rintro e w5 ⟨rfl, hg5⟩
              go_wp2_with fail
              go_ret
              exact ⟨rfl, below_only (by rw [HWx.out]; exact below_drewN HB.out n) (by rw [HWx.out]; exact hsz) hg5 (by simp)⟩

theorem own : ownKnob Try.prog.godebug = none := by kernel_rfl
theorem laidOut : laidOutB Try.prog = true := by kernel_rfl

set_option maxRecDepth 100000 in
theorem lifted (os : Os) (started : os.Started) (H : Type) (enc : TypeId × Value → H) :
    ReturnsInHanded {} Try.checked os 12 .any (Rows.clockDriftSpec.pre6 enc Try.prog Try.f12 Rows.clockDriftRow.domain false) (Rows.clockDriftSpec.post enc Try.prog Try.f12 false true false false) := by
  refine returnsInHanded_of_change (C := Try.checked) own started (by kernel_rfl) Try.func12
    (ChangeSpec.witness6 (enc := enc) (C := Try.checked) false ⟨#[], #[.slice none 0 0, .slice none 0 0, .int .u8 0, .int .u8 0], []⟩ 8 (by kernel_rfl) (by kernel_rfl) (by kernel_rfl) (by kernel_rfl)) ?_
  intro W base args ds gs before hval0 hW hcnd _
  have hval : ∀ (j : Nat) t v, Try.f12.params[j]? = some t → args[j]? = some v → Value.okWide Try.prog W .any base t v := hval0
  have hW' := hW
  obtain ⟨p, q, hA0, hV, rfl, hfz, hnd⟩ := hW
  have hA : DataW.TrodAll enc Try.prog W 0 (fun _ => true) true Try.f12.params.toList args.toList ds p := hA0
  rw [Try.params12] at hA hval
  obtain ⟨v0, vs0, d0, ds0, p0, q0, hargs, rfl, rfl, h0, r0⟩ := trodAll_cons hA
  obtain ⟨v1, vs1, d1, ds1, p1, q1, rfl, rfl, rfl, h1, r1⟩ := trodAll_cons r0
  obtain ⟨v2, vs2, d2, ds2, p2, q2, rfl, rfl, rfl, h2, r2⟩ := trodAll_cons r1
  obtain ⟨v3, vs3, d3, ds3, p3, q3, rfl, rfl, rfl, h3, r3⟩ := trodAll_cons r2
  obtain ⟨rfl, rfl, rfl⟩ := trodAll_nil r3
  obtain rfl : args = #[v0, v1, v2, v3] := by cases args; simp_all
  obtain ⟨rfl, rfl⟩ := trodVars_none hV
  obtain ⟨a0, len0, cap0, rfl⟩ := okWide_slice Try.underlying67 (hval 0 67 v0 rfl rfl)
  have k0 := h0
  have lt0 : ∀ x ∈ p0, x.block < W.heap.size := by obtain ⟨m, hm⟩ := k0; exact DataW.trod_lt m _ _ _ hm
  obtain ⟨z0, w0⟩ : ∃ zs, IsRow .u16 W a0 len0 cap0 zs := by
    obtain ⟨fuel, hf⟩ := h0
    rcases open_ints Try.underlying67 Try.underlying37 (by kernel_rfl) hf with ⟨hcs, _⟩ | ⟨x, l, c, zs, hcs, _, hl, hm, hz, _, hcell, hwz⟩
    · simp [Value.cells] at hcs
      obtain ⟨rfl, rfl, rfl⟩ := hcs
      exact ⟨[], .inl ⟨rfl, rfl, rfl, rfl⟩⟩
    · simp [Value.cells] at hcs
      obtain ⟨rfl, rfl, rfl⟩ := hcs
      exact ⟨zs, .inr ⟨_, rfl, hl, hm, by simpa using hz, hcell, hwz⟩⟩
  obtain ⟨a1, len1, cap1, rfl⟩ := okWide_slice Try.underlying67 (hval 1 67 v1 rfl rfl)
  have k1 := h1
  have lt1 : ∀ x ∈ p1, x.block < W.heap.size := by obtain ⟨m, hm⟩ := k1; exact DataW.trod_lt m _ _ _ hm
  obtain ⟨z1, w1⟩ : ∃ zs, IsRow .u16 W a1 len1 cap1 zs := by
    obtain ⟨fuel, hf⟩ := h1
    rcases open_ints Try.underlying67 Try.underlying37 (by kernel_rfl) hf with ⟨hcs, _⟩ | ⟨x, l, c, zs, hcs, _, hl, hm, hz, _, hcell, hwz⟩
    · simp [Value.cells] at hcs
      obtain ⟨rfl, rfl, rfl⟩ := hcs
      exact ⟨[], .inl ⟨rfl, rfl, rfl, rfl⟩⟩
    · simp [Value.cells] at hcs
      obtain ⟨rfl, rfl, rfl⟩ := hcs
      exact ⟨zs, .inr ⟨_, rfl, hl, hm, by simpa using hz, hcell, hwz⟩⟩
  obtain ⟨a2, rfl, rfl, rfl, w2⟩ := open_int Try.underlying5 (hval 2 5 v2 rfl rfl) h2
  obtain ⟨a3, rfl, rfl, rfl, w3⟩ := open_int Try.underlying5 (hval 3 5 v3 rfl rfl) h3
  clear hA0 hval0
  refine (walk a0 len0 cap0 z0 a1 len1 cap1 z1 a2 a3 W w0 w1 w2 w3).mono fun e W' ⟨he, bel⟩ => ?_
  subst he
  exact ⟨_, rfl, _, _, _, [], _, [], hW', trodAll_mk1 (shut_bool Try.underlying4 _), (trodAll_cons_mk (Below.trod laidOut (by kernel_rfl) (of_decide_eq_true (by kernel_rfl)) k0 bel lt0) (trodAll_cons_mk (Below.trod laidOut (by kernel_rfl) (of_decide_eq_true (by kernel_rfl)) k1 bel lt1) (trodAll_cons_mk (shut_int Try.underlying5 w2) (trodAll_cons_mk (shut_int Try.underlying5 w3) trodAll_mk0)))), rfl, bel.frame _, fun h => by cases h⟩

theorem over : Rows.clockDriftRow.holds Try.pinned (OpenSpec.ofChange Rows.clockDriftSpec) :=
  OpenClaim.holds_of_wide 12 Try.f12 rfl rfl rfl rfl rfl rfl rfl ⟨rfl, rfl, rfl, rfl, rfl⟩ rfl rfl rfl rfl rfl (by kernel_rfl) Try.func12 (by kernel_rfl)
    (of_decide_eq_true (by kernel_rfl)) (by unfold Func.isWrapper; first | (rw [if_pos (by decide +kernel)]; kernel_rfl) | (rw [if_neg (by decide +kernel)]; exact ⟨rfl, rfl⟩))
    (fun os started H enc _ => lifted os started H enc)

/-- The statement. -/
theorem proved : Rows.ClockDriftSaid := over
#print axioms proved
end Go.Proofs.Ytmlcjmgclfgbiaa.clockDrift
