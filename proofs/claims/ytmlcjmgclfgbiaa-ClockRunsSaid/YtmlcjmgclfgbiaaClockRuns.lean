/- ClockRuns returns true at every input, and its arguments read as they did: no condition. -/
import Derived.Test.YtmlcjmgclfgbiaaRows
import Derived.WalkKit
import Derived.ProofKit
import Derived.OpenShut
import Derived.ShutString
import Derived.ChangeOld
import Derived.Below
import Derived.WalkSpells
import Derived.WalkLawsBesides
import Derived.Handy
import Derived.Deep.QuietTactic
import Derived.BigQuiet
import Derived.Deep.RegionHeld3
import Derived.Test.YtmlcjmgclfgbiaaMem
import Derived.Test.YtmlcjmgclfgbiaaFl
import Derived.Test.YtmlcjmgclfgbiaaFlRun
import Derived.Test.YtmlcjmgclfgbiaaClean
import Derived.Test.YtmlcjmgclfgbiaaMove
import Derived.Test.YtmlcjmgclfgbiaaRateW
import Derived.Test.YtmlcjmgclfgbiaaCopy
import Derived.Test.YtmlcjmgclfgbiaaHand
import Derived.Test.YtmlcjmgclfgbiaaTwo
import Derived.Test.YtmlcjmgclfgbiaaClkA
import Derived.Test.YtmlcjmgclfgbiaaClk
import Derived.Test.YtmlcjmgclfgbiaaPassC
import Derived.Test.YtmlcjmgclfgbiaaRefC
import Derived.Test.YtmlcjmgclfgbiaaAw3
import Derived.Test.YtmlcjmgclfgbiaaWorstP
import Derived.Test.YtmlcjmgclfgbiaaStruct
namespace Go.Proofs.Ytmlcjmgclfgbiaa.clockRuns
open Go.ChangeShapes Go.WideShapes Go.ChangeAt Go.RowKit
open Go.ChangeMaps (open_string shut_string)
set_option linter.unusedVariables false

open Fl
def RunsRel (B g hb g2 sb rb c len : Nat) (w : World) (v7 : Value) (wr : World) : Prop :=
  ∃ (m : Nat) (nw : Nat → Int) (r : Nat → Nat) (ref wo : Int), m ≤ len ∧ v7 = .int .i64 m ∧ ClockIs wr g hb c nw r ref wo ∧ RefIs wr g2 sb rb c nw r ref wo ∧
    (∀ i, i < c → 0 ≤ nw i ∧ nw i ≤ 16000 * (m : Int)) ∧ (∀ i, r i < 18446744073709551616) ∧ 0 ≤ ref ∧ ref ≤ 1000 * (m : Int) ∧ 0 ≤ wo ∧ wo ≤ 1001 ∧ Below B w wr ∧ B ≤ wr.heap.size
def EndRel (c : Nat) (W : World) (v : Value) (wr : World) : Prop := ∃ j n : Nat, j ≤ c ∧ v = .int .i64 j ∧ wr = W.drewN n
theorem upd_lt {r : Nat → Nat} {j q b : Nat} (h : ∀ i, r i < b) (hq : q < b) (i : Nat) : upd r j q i < b := by
  unfold upd; split
  · exact hq
  · exact h i
/-- The two families of blocks lie apart. -/
theorem fam_ne {w : World} {g hb g2 sb rb c : Nat} {nw nw' : Nat → Int} {r r' : Nat → Nat} {ref wo ref' wo' : Int} (h : ClockIs w g hb c nw r ref wo) (k : RefIs w g2 sb rb c nw' r' ref' wo') :
    g ≠ g2 ∧ g ≠ sb ∧ g ≠ rb ∧ hb ≠ g2 ∧ hb ≠ sb ∧ hb ≠ rb :=
  ⟨h.1.ne k.1 (by decide), h.1.ne k.2.1 (by decide), h.1.ne k.2.2 (by decide), h.2.ne k.1 (by decide), h.2.ne k.2.1 (by decide), h.2.ne k.2.2 (by decide)⟩
/-- What both say of one number. -/
theorem now_both {W : World} {g hb g2 sb rb c : Nat} {nw : Nat → Int} {r : Nat → Nat} {ref wo : Int} (h : ClockIs W g hb c nw r ref wo) (k : RefIs W g2 sb rb c nw r ref wo) (hc : c ≤ 15) (x1 : Int) :
    ∃ v : Int, (∀ q, Calls Try.prog 44 #[.pointer (some ⟨g, 0, none⟩), .int .i64 x1] (W.drewN q) fun e w' => e = .returned (.int .i64 v) ∧ W.drewN q = w') ∧ (∀ q, Calls Try.prog 45 #[.pointer (some ⟨g2, 0, none⟩), .int .i64 x1] (W.drewN q) fun e w' => e = .returned (.int .i64 v) ∧ W.drewN q = w') := by
  by_cases hx : x1 < 0 ∨ (c : Int) ≤ x1
  · exact ⟨0, fun q => now_no (w := W.drewN q) ⟨h.1.drewN q, h.2.drewN q⟩ hc x1 hx, fun q => rnow_no (w := W.drewN q) ⟨k.1.drewN q, k.2.1.drewN q, k.2.2.drewN q⟩ x1 hx hc⟩
  · obtain ⟨j, rfl⟩ : ∃ j : Nat, x1 = (j : Int) := ⟨x1.toNat, by omega⟩
    exact ⟨nw j, fun q => now_yes (w := W.drewN q) ⟨h.1.drewN q, h.2.drewN q⟩ hc j (by omega), fun q => rnow_yes (w := W.drewN q) ⟨k.1.drewN q, k.2.1.drewN q, k.2.2.drewN q⟩ j (by omega) hc⟩
theorem cdrew {W : World} {g hb c : Nat} {nw : Nat → Int} {r : Nat → Nat} {ref wo : Int} (h : ClockIs W g hb c nw r ref wo) (q : Nat) : ClockIs (W.drewN q) g hb c nw r ref wo := ⟨h.1.drewN q, h.2.drewN q⟩
theorem rdrew {W : World} {g sb rb c : Nat} {nw : Nat → Int} {r : Nat → Nat} {ref wo : Int} (h : RefIs W g sb rb c nw r ref wo) (q : Nat) : RefIs (W.drewN q) g sb rb c nw r ref wo := ⟨h.1.drewN q, h.2.1.drewN q, h.2.2.drewN q⟩
set_option maxRecDepth 100000 in
set_option maxHeartbeats 4000000 in
theorem walk (a0 : Int) (a1 : Option Addr) (len1 cap1 : Nat) (z1 : Nat → Nat → Value) (w : World) (w0 : (Lit.int .i64 a0).wf = true) (w1 : IsRecs w a1 len1 cap1 3 z1)
    (y1 : ∀ i, i < len1 → (∃ x, z1 i 0 = .int .i64 x ∧ (Lit.int .i64 x).wf = true) ∧ (∃ x, z1 i 1 = .int .i64 x ∧ (Lit.int .i64 x).wf = true) ∧ (∃ x, z1 i 2 = .int .u64 x ∧ (Lit.int .u64 x).wf = true)) :
    Calls Try.prog 9 #[.int .i64 a0, .slice a1 len1 cap1] w fun e w' => e = .returned (.bool true) ∧ Below w.heap.size w w' := by
  clear w0
  obtain ⟨hl, hc⟩ := w1
  have Hc := Lib.hid hc
  have Hy := Lib.hid y1
  clear hc y1
  by_cases h40 : 60 < len1
  · go_enter Try.func9, Try.ntmps9
    go_wp2_with fail
    refine (awake3_any _).mono ?_
    rintro e w1 ⟨rfl, hg⟩
    go_wp2_with fail
    go_ret
    exact ⟨rfl, below_only (Below.refl _ _) (Nat.le_refl _) hg (by simp)⟩
  · have h40' : len1 ≤ 60 := by omega
    clear h40
    have hcc := countF_le a0
    have HN := new_any a0
    have HN' := rnew_any a0
    generalize countF a0 = c at *
    have HNew := Lib.hid HN
    have HNew' := Lib.hid HN'
    clear HN HN'
    go_enter Try.func9, Try.ntmps9
    go_wp2_with fail
    refine (HNew.out _).mono ?_
    rintro e w1 ⟨g, hb, rfl, hk1, hg1, l1, l2⟩
    have HK1 := Lib.hid hk1
    have HG1 := Lib.hid hg1
    clear hk1 hg1
    go_wp2_with fail
    refine (HNew'.out _).mono ?_
    rintro e w2 ⟨g2, sb, rb, rfl, hk2, hg2, l3, l4, l5⟩
    have hs1 := HG1.out.size
    have hs2 := hg2.size
    have HS : Hid (RunsRel w.heap.size g hb g2 sb rb c len1 w (.int .i64 0) w2) :=
      ⟨0, _, _, 0, 0, by omega, rfl, ⟨HK1.out.1.kept hg2 (by simp), HK1.out.2.kept hg2 (by simp)⟩, hk2, fun i _ => by omega, fun i => by omega, by omega, by omega, by omega, by omega, below_only (below_only (Below.refl _ _) (Nat.le_refl _) HG1.out (by simp)) hs1 hg2 (by simp), by omega⟩
    have l3' : w.heap.size ≤ g2 := by omega
    have l4' : w.heap.size ≤ sb := by omega
    have l5' : w.heap.size ≤ rb := by omega
    clear hk2 hg2 HK1 HG1 hs1 hs2 l3 l4 l5
    go_wp2_with fail
    go_loopw [7] (fun v7 wr => RunsRel w.heap.size g hb g2 sb rb c len1 w v7 wr) (fun v7 _ => len1 - (intOf v7).toNat)
    case atStart => exact HS.out
    case round =>
      clear HS
      obtain ⟨m, nw, r, ref, wo, hm, rfl, hka, hkb, hn1, hr, hf1, hf2, ho1, ho2, hbel, hsz⟩ := hrel
      obtain ⟨d1, d2, d3, d4, d5, d6⟩ := fam_ne hka hkb
      obtain ⟨d7, d8, d9⟩ := hkb.ne
      have d10 := hka.ne
      have HA := Lib.hid hka
      have HR := Lib.hid hkb
      have HN1 := Lib.hid hn1
      have HRr := Lib.hid hr
      have HB := Lib.hid hbel
      have s1 := hka.1.lt
      have s2 := hka.2.lt
      have s3 := hkb.1.lt
      have s4 := hkb.2.1.lt
      have s5 := hkb.2.2.lt
      clear hka hkb hn1 hr hbel
      by_cases hlt : m < len1
      · obtain ⟨bk, off, ha1, hbk, hcell⟩ := Hc.out (by omega)
        subst ha1
        obtain ⟨⟨x0, e0, wx0⟩, ⟨x1, e1, wx1⟩, ⟨x2, e2, wx2⟩⟩ := Hy.out m hlt
        have c0 : wr.cell? ⟨bk, off + (m * 3), none⟩ = some (.int .i64 x0) := by rw [HB.out.cell (p := ⟨bk, off + (m * 3), none⟩) hbk, ← e0]; exact hcell m hlt 0 (by omega)
        have c1 : wr.cell? ⟨bk, off + (m * 3) + 1, none⟩ = some (.int .i64 x1) := by rw [HB.out.cell (p := ⟨bk, off + (m * 3) + 1, none⟩) hbk, ← e1]; exact hcell m hlt 1 (by omega)
        have c2 : wr.cell? ⟨bk, off + (m * 3) + 2, none⟩ = some (.int .u64 x2) := by rw [HB.out.cell (p := ⟨bk, off + (m * 3) + 2, none⟩) hbk, ← e2]; exact hcell m hlt 2 (by omega)
        have b2 := bounds_u64 wx2
        have hi0 : (0 : Int) ≤ (m : Int) := by omega
        have hi1 : (m : Int) < (len1 : Int) := by omega
        clear hcell e0 e1 e2 wx0 wx1 wx2
        have HC1 := Lib.hid c1
        have HC2 := Lib.hid c2
        by_cases hx0 : x0 = 0
        · subst hx0
          have hcb : ∀ W : World, Below w.heap.size w W → W.cell? ⟨bk, off + (m * 3) + 1, none⟩ = some (.int .i64 x1) := fun W hW => by
            rw [hW.cell (p := ⟨bk, off + (m * 3) + 1, none⟩) hbk, ← HB.out.cell (p := ⟨bk, off + (m * 3) + 1, none⟩) hbk]; exact HC1.out
          have HCb := Lib.hid hcb
          clear hcb
          by_cases hx1 : x1 < 1 ∨ 1000 < x1
          · go_wp2_with fail
            refine (pass_no g hb c _ r _ _ x1 _ HA.out hx1).mono ?_
            rintro e w4 ⟨rfl, rfl⟩
            go_wp2_with fail
            refine (rpass_no g2 x1 _ hx1).mono ?_
            rintro e w4 ⟨rfl, rfl⟩
            go_wp2_with fail
            refine (same_any _ _ 0 0 0 (fun _ => 0) _ (IsI.nil _ _) (IsI.nil _ _)).mono ?_
            rintro e w4 ⟨rfl, n, rfl⟩
            clear hx1 c0 c1 c2
            have HA4 := Lib.hid (cdrew HA.out n)
            have HR4 := Lib.hid (rdrew HR.out n)
            have HB4 := Lib.hid (below_drewN HB.out n)
            have hsz4 : w.heap.size ≤ (wr.drewN n).heap.size := hsz
            generalize wr.drewN n = w4 at *
            have c1 : w4.cell? ⟨bk, off + (m * 3) + 1, none⟩ = some (.int .i64 x1) := HCb.out _ HB4.out
            obtain ⟨v, hv1, hv2⟩ := now_both HA4.out HR4.out hcc x1
            have HV1 := Lib.hid hv1
            have HV2 := Lib.hid hv2
            have HRf : Hid (∀ q, Calls Try.prog 42 #[.pointer (some ⟨g, 0, none⟩)] (w4.drewN q) fun e w' => e = .returned (.int .i64 (ref)) ∧ w4.drewN q = w') := fun q => ref_any (cdrew HA4.out q)
            have HWo : Hid (∀ q, Calls Try.prog 43 #[.pointer (some ⟨g, 0, none⟩)] (w4.drewN q) fun e w' => e = .returned (.int .i64 (wo)) ∧ w4.drewN q = w') := fun q => worst_any (cdrew HA4.out q)
            have u2 : w4.cell? ⟨g2, 2, none⟩ = some (.int .i64 (ref)) := HR4.out.1.cell 2
            have u3 : w4.cell? ⟨g2, 3, none⟩ = some (.int .i64 (wo)) := HR4.out.1.cell 3
            have HN : ∀ q, Hid (RunsRel w.heap.size g hb g2 sb rb c len1 w (.int .i64 ((m : Int) + 1)) (w4.drewN q)) := fun q =>
              ⟨m + 1, _, _, _, _, by omega, by go_num, cdrew HA4.out q, rdrew HR4.out q, fun i hi => by have := HN1.out i hi; omega, HRr.out, by omega, by omega, by omega, by omega, below_drewN HB4.out q, by show w.heap.size ≤ w4.heap.size; omega⟩
            clear hv1 hv2
            go_wp2_with fail
            go_quiet ((first | (go_at_call 42; exact quiet_left (HRf.out _)) | (go_at_call 43; exact quiet_left (HWo.out _)) | (go_at_call 44; exact quiet_left (HV1.out _)) | (go_at_call 45; exact quiet_left (HV2.out _))))
            go_wp2_with fail
            exact ⟨(HN _).out, by simp [intOf]; omega⟩
          · have h1 : 1 ≤ x1 := by omega
            have h2 : x1 ≤ 1000 := by omega
            clear hx1
            have hwb := wF_bd (r := r) h1 ho1 ho2 c
            go_wp2_with fail
            refine (pass_yes g hb c nw r ref wo x1 _ HA.out hcc (fun i hi => by have := HN1.out i hi; omega) (fun i _ => HRr.out i) (by omega) (by omega) h1 h2).mono ?_
            rintro e w4 ⟨rfl, hk4, hb4, ho4⟩
            have hs4 := ho4.size
            have HA4 := Lib.hid hk4
            have HM4 := Lib.hid hb4
            have HR4 := Lib.hid (HR.out.kept ho4 ⟨by omega, by omega⟩ ⟨by omega, by omega⟩ ⟨by omega, by omega⟩)
            have HB4 := Lib.hid (Only2.below HB.out hsz ho4 (by omega) (by omega))
            clear hk4 hb4 ho4 c0 c1 c2
            have c1 : w4.cell? ⟨bk, off + (m * 3) + 1, none⟩ = some (.int .i64 x1) := HCb.out _ HB4.out
            go_wp2_with fail
            refine (rpass_yes g2 sb rb c nw r ref wo x1 _ HR4.out hcc (fun i hi => by have := HN1.out i hi; omega) (fun i _ => HRr.out i) (by omega) (by omega) h1 h2).mono ?_
            rintro e w5 ⟨rfl, hk5, hb5, ho5⟩
            have hs5 := ho5.size
            have HR5 := Lib.hid hk5
            have HM5 := Lib.hid hb5
            have HA5 := Lib.hid (HA4.out.kept ho5 (by omega) (by omega) (by omega) (by omega))
            have HM6 := Lib.hid (HM4.out.kept2 ho5 (by omega) (by omega))
            have HB5 := Lib.hid (Only2.below HB4.out (by omega) ho5 (by omega) (by omega))
            clear hk5 hb5 ho5 c1
            go_wp2_with fail
            refine (same_any _ _ c c c (mvI r x1) _ (IsI.blk HM6.out (by omega)) (IsI.blk HM5.out (by omega))).mono ?_
            rintro e w6 ⟨rfl, n, rfl⟩
            have HA6 := Lib.hid (cdrew HA5.out n)
            have HR6 := Lib.hid (rdrew HR5.out n)
            have HB6 := Lib.hid (below_drewN HB5.out n)
            have hsz6 : w.heap.size ≤ (w5.drewN n).heap.size := by show w.heap.size ≤ w5.heap.size; omega
            generalize w5.drewN n = w6 at *
            have c1 : w6.cell? ⟨bk, off + (m * 3) + 1, none⟩ = some (.int .i64 x1) := HCb.out _ HB6.out
            obtain ⟨v, hv1, hv2⟩ := now_both HA6.out HR6.out hcc x1
            have HV1 := Lib.hid hv1
            have HV2 := Lib.hid hv2
            have HRf : Hid (∀ q, Calls Try.prog 42 #[.pointer (some ⟨g, 0, none⟩)] (w6.drewN q) fun e w' => e = .returned (.int .i64 (ref + x1)) ∧ w6.drewN q = w') := fun q => ref_any (cdrew HA6.out q)
            have HWo : Hid (∀ q, Calls Try.prog 43 #[.pointer (some ⟨g, 0, none⟩)] (w6.drewN q) fun e w' => e = .returned (.int .i64 (wF r x1 wo c)) ∧ w6.drewN q = w') := fun q => worst_any (cdrew HA6.out q)
            have u2 : w6.cell? ⟨g2, 2, none⟩ = some (.int .i64 (ref + x1)) := HR6.out.1.cell 2
            have u3 : w6.cell? ⟨g2, 3, none⟩ = some (.int .i64 (wF r x1 wo c)) := HR6.out.1.cell 3
            have HN : ∀ q, Hid (RunsRel w.heap.size g hb g2 sb rb c len1 w (.int .i64 ((m : Int) + 1)) (w6.drewN q)) := fun q =>
              ⟨m + 1, _, _, _, _, by omega, by go_num, cdrew HA6.out q, rdrew HR6.out q, fun i hi => by
                have := HN1.out i hi
                have := mvI_bd (r := r) (n := x1) (i := i) (HRr.out i)
                show (0 : Int) ≤ nw i + mvI r x1 i ∧ nw i + mvI r x1 i ≤ _
                omega, HRr.out, by omega, by omega, hwb.1, hwb.2, below_drewN HB6.out q, by show w.heap.size ≤ w6.heap.size; omega⟩
            clear hv1 hv2
            go_wp2_with fail
            go_quiet ((first | (go_at_call 42; exact quiet_left (HRf.out _)) | (go_at_call 43; exact quiet_left (HWo.out _)) | (go_at_call 44; exact quiet_left (HV1.out _)) | (go_at_call 45; exact quiet_left (HV2.out _))))
            go_wp2_with fail
            exact ⟨(HN _).out, by simp [intOf]; omega⟩
        · have hx0' : (x0 == 0) = false := by rw [beq_eq_false_iff_ne]; exact hx0
          have hcb : ∀ W : World, Below w.heap.size w W → W.cell? ⟨bk, off + (m * 3) + 1, none⟩ = some (.int .i64 x1) := fun W hW => by
            rw [hW.cell (p := ⟨bk, off + (m * 3) + 1, none⟩) hbk, ← HB.out.cell (p := ⟨bk, off + (m * 3) + 1, none⟩) hbk]; exact HC1.out
          have HCb := Lib.hid hcb
          clear hcb
          obtain ⟨x, hx⟩ : ∃ x, x2.toNat = x := ⟨_, rfl⟩
          have hxl : x < 18446744073709551616 := by omega
          have HX := Lib.hid hx
          clear hx
          by_cases hx1 : x1 < 0 ∨ (c : Int) ≤ x1
          · have HFl : Hid (∀ q, Calls Try.prog 14 #[.int .u64 x2] (wr.drewN q) fun e w' => e = .returned (.float .f64 x) ∧ wr.drewN q = w') := fun q => by rw [← HX.out]; exact float_any x2 _
            have HS1 : Hid (∀ q, Calls Try.prog 40 #[.pointer (some ⟨g, 0, none⟩), .int .i64 x1, .float .f64 x] (wr.drewN q) fun e w' => e = .returned (.int .i64 6) ∧ wr.drewN q = w') := fun q => set_no (cdrew HA.out q) hcc x1 x hx1
            have HS2 : Hid (∀ q, Calls Try.prog 41 #[.pointer (some ⟨g2, 0, none⟩), .int .i64 x1, .float .f64 x] (wr.drewN q) fun e w' => e = .returned (.int .i64 6) ∧ wr.drewN q = w') := fun q => rset_no (rdrew HR.out q) x1 x hx1 hcc
            go_wp2_with fail
            go_quiet ((first | (go_at_call 14; exact quiet_left (HFl.out _)) | (go_at_call 40; exact quiet_left (HS1.out _)) | (go_at_call 41; exact quiet_left (HS2.out _))))
            clear hx1 c0 c1 c2 HFl HS1 HS2
            have HA4 := Lib.hid (cdrew HA.out nq)
            have HR4 := Lib.hid (rdrew HR.out nq)
            have HB4 := Lib.hid (below_drewN HB.out nq)
            have hsz4 : w.heap.size ≤ (wr.drewN nq).heap.size := hsz
            generalize wr.drewN nq = w4 at *
            have c1 : w4.cell? ⟨bk, off + (m * 3) + 1, none⟩ = some (.int .i64 x1) := HCb.out _ HB4.out
            obtain ⟨v, hv1, hv2⟩ := now_both HA4.out HR4.out hcc x1
            have HV1 := Lib.hid hv1
            have HV2 := Lib.hid hv2
            have HRf : Hid (∀ q, Calls Try.prog 42 #[.pointer (some ⟨g, 0, none⟩)] (w4.drewN q) fun e w' => e = .returned (.int .i64 (ref)) ∧ w4.drewN q = w') := fun q => ref_any (cdrew HA4.out q)
            have HWo : Hid (∀ q, Calls Try.prog 43 #[.pointer (some ⟨g, 0, none⟩)] (w4.drewN q) fun e w' => e = .returned (.int .i64 (wo)) ∧ w4.drewN q = w') := fun q => worst_any (cdrew HA4.out q)
            have u2 : w4.cell? ⟨g2, 2, none⟩ = some (.int .i64 (ref)) := HR4.out.1.cell 2
            have u3 : w4.cell? ⟨g2, 3, none⟩ = some (.int .i64 (wo)) := HR4.out.1.cell 3
            have HN : ∀ q, Hid (RunsRel w.heap.size g hb g2 sb rb c len1 w (.int .i64 ((m : Int) + 1)) (w4.drewN q)) := fun q =>
              ⟨m + 1, _, _, _, _, by omega, by go_num, cdrew HA4.out q, rdrew HR4.out q, fun i hi => by have := HN1.out i hi; omega, HRr.out, by omega, by omega, by omega, by omega, below_drewN HB4.out q, by show w.heap.size ≤ w4.heap.size; omega⟩
            clear hv1 hv2
            go_wp2_with fail
            go_quiet ((first | (go_at_call 42; exact quiet_left (HRf.out _)) | (go_at_call 43; exact quiet_left (HWo.out _)) | (go_at_call 44; exact quiet_left (HV1.out _)) | (go_at_call 45; exact quiet_left (HV2.out _))))
            go_wp2_with fail
            exact ⟨(HN _).out, by simp [intOf]; omega⟩
          · obtain ⟨j, rfl⟩ : ∃ j : Nat, x1 = (j : Int) := ⟨x1.toNat, by omega⟩
            have hj : j < c := by omega
            have hrr : ∀ i, upd r j (cl x) i < 18446744073709551616 := upd_lt HRr.out (by have := (cl_spec x hxl).1; omega)
            have HRr2 := Lib.hid hrr
            clear hx1 hrr
            have hS0 : wr.cell? ⟨bk, off + (m * 3) + 1, none⟩ = some (.int .i64 (j : Int)) ∧ wr.cell? ⟨bk, off + (m * 3) + 2, none⟩ = some (.int .u64 x2) := ⟨c1, c2⟩
            go_wp2_with fail
            go_region_held3 (fun w' => w'.cell? ⟨bk, off + (m * 3) + 1, none⟩ = some (.int .i64 (j : Int)) ∧ w'.cell? ⟨bk, off + (m * 3) + 2, none⟩ = some (.int .u64 x2))
              (first | assumption | go_keep)
              (first
                | (go_at_call 14; refine (float_any _ _).mono ?_; rw [HX.out]; rintro e w' ⟨rfl, rfl⟩)
                | (go_at_call 40; refine (set_yes (nw := nw) (r := r) (ref := ref) (worst := wo) (hb := hb) (n := c) ?_ hcc j x hj).mono ?_; exact HA.out; rintro e w3 ⟨rfl, hk3, hg3⟩; have hS3 : w3.cell? ⟨bk, off + (m * 3) + 1, none⟩ = some (.int .i64 (j : Int)) ∧ w3.cell? ⟨bk, off + (m * 3) + 2, none⟩ = some (.int .u64 x2) := ⟨keep_far hg3 (by omega) hS0.1, keep_far hg3 (by omega) hS0.2⟩)
                | (go_at_call 41; refine (rset_yes (nw := nw) (r := r) (ref := ref) (worst := wo) (sb := sb) (rb := rb) (n := c) ?_ j x hj hcc).mono ?_; exact ⟨HR.out.1.drew.kept hg3 (by intro e; injection e with e; omega), HR.out.2.1.drew.kept hg3 (by intro e; injection e with e; omega), HR.out.2.2.drew.kept hg3 (by intro e; injection e with e; omega)⟩; rintro e w4 ⟨rfl, hk4, hg4⟩; have hS4 : w4.cell? ⟨bk, off + (m * 3) + 1, none⟩ = some (.int .i64 (j : Int)) ∧ w4.cell? ⟨bk, off + (m * 3) + 2, none⟩ = some (.int .u64 x2) := ⟨keep_far hg4 (by omega) hS3.1, keep_far hg4 (by omega) hS3.2⟩))
            have hs3 := hg3.size
            have hs4 := hg4.size
            have hs34 : wr.heap.size ≤ w3.heap.size := hs3
            have HA4 : Hid (ClockIs w4 g hb c nw (upd r j (cl x)) ref wo) := ⟨hk3.1.kept hg4 (by intro e; injection e with e; omega), hk3.2.kept hg4 (by intro e; injection e with e; omega)⟩
            have HR4 : Hid (RefIs w4 g2 sb rb c nw (upd r j (cl x)) ref wo) := hk4
            have HB4 : Hid (Below w.heap.size w w4) := below_only (below_only (b := wr.drew) (below_drewN HB.out 1) hsz hg3 (by intro g' e; injection e with e; omega)) (by omega) hg4 (by intro g' e; injection e with e; omega)
            clear hk3 hk4 hg3 hg4 c0 c1 c2
            have c1 : w4.cell? ⟨bk, off + (m * 3) + 1, none⟩ = some (.int .i64 (j : Int)) := hS4.1
            obtain ⟨v, hv1, hv2⟩ := now_both HA4.out HR4.out hcc (j : Int)
            have HV1 := Lib.hid hv1
            have HV2 := Lib.hid hv2
            have HRf : Hid (∀ q, Calls Try.prog 42 #[.pointer (some ⟨g, 0, none⟩)] (w4.drewN q) fun e w' => e = .returned (.int .i64 ref) ∧ w4.drewN q = w') := fun q => ref_any (cdrew HA4.out q)
            have HWo : Hid (∀ q, Calls Try.prog 43 #[.pointer (some ⟨g, 0, none⟩)] (w4.drewN q) fun e w' => e = .returned (.int .i64 wo) ∧ w4.drewN q = w') := fun q => worst_any (cdrew HA4.out q)
            have u2 : w4.cell? ⟨g2, 2, none⟩ = some (.int .i64 ref) := HR4.out.1.cell 2
            have u3 : w4.cell? ⟨g2, 3, none⟩ = some (.int .i64 wo) := HR4.out.1.cell 3
            have HN : ∀ q, Hid (RunsRel w.heap.size g hb g2 sb rb c len1 w (.int .i64 ((m : Int) + 1)) (w4.drewN q)) := fun q =>
              ⟨m + 1, _, _, _, _, by omega, by go_num, cdrew HA4.out q, rdrew HR4.out q, fun i hi => by have := HN1.out i hi; omega, HRr2.out, by omega, by omega, by omega, by omega, below_drewN HB4.out q, by show w.heap.size ≤ w4.heap.size; omega⟩
            clear hv1 hv2 hS3 hS4 hS0
            go_wp2_with fail
            go_quiet ((first | (go_at_call 42; exact quiet_left (HRf.out _)) | (go_at_call 43; exact quiet_left (HWo.out _)) | (go_at_call 44; exact quiet_left (HV1.out _)) | (go_at_call 45; exact quiet_left (HV2.out _))))
            go_wp2_with fail
            exact ⟨(HN _).out, by simp [intOf]; omega⟩
      · have : m = len1 := by omega
        subst this
        obtain ⟨wx, rfl⟩ : ∃ wx : World, wx = wr := ⟨_, rfl⟩
        have HE : Hid (EndRel c wx (.int .i64 0) wx) := ⟨0, 0, by omega, rfl, rfl⟩
        go_wp2_with fail
        go_loopw [12] (fun v wr => EndRel c wx v wr) (fun v _ => c - (intOf v).toNat)
        case atStart => exact HE.out
        case round =>
          clear HE
          obtain ⟨j, n, hj, rfl, hW⟩ := hrel
          have HWx := Lib.hid hW
          clear hW
          have HA4 : Hid (ClockIs wr g hb c nw r ref wo) := by rw [HWx.out]; exact cdrew HA.out n
          have HR4 : Hid (RefIs wr g2 sb rb c nw r ref wo) := by rw [HWx.out]; exact rdrew HR.out n
          have u0 : wr.cell? ⟨g2, 0, none⟩ = some (.slice (some ⟨sb, 0, none⟩) c c) := HR4.out.1.cell 0
          have hj0 : (0 : Int) ≤ (j : Int) := by omega
          by_cases hjc : j < c
          · have hj1 : (j : Int) < (c : Int) := by omega
            have u1 : wr.cell? ⟨sb, j, none⟩ = some (.int .i64 (nw j)) := (HR4.out.2.1.cell j).trans (by rw [intA_get, if_pos hjc])
            have HNo : Hid (∀ q, Calls Try.prog 44 #[.pointer (some ⟨g, 0, none⟩), .int .i64 (j : Int)] (wr.drewN q) fun e w' => e = .returned (.int .i64 (nw j)) ∧ wr.drewN q = w') := fun q => now_yes (cdrew HA4.out q) hcc j hjc
            have HN : ∀ q, Hid (EndRel c wx (.int .i64 ((j : Int) + 1)) (wr.drewN q)) := fun q => ⟨j + 1, n + q, by omega, by go_num, by rw [HWx.out]; exact drewN_add3 _ _ _⟩
            generalize nw j = nj at *
            go_wp2_with fail
            go_quiet ((first | (go_at_call 44; exact quiet_left (HNo.out _))))
            go_wp2_with fail
            exact ⟨(HN _).out, by simp [intOf]; omega⟩
          · have HLn : Hid (∀ q, Calls Try.prog 46 #[.pointer (some ⟨g, 0, none⟩)] (wr.drewN q) fun e w' => e = .returned (.int .i64 c) ∧ wr.drewN q = w') := fun q => len_any (cdrew HA4.out q) hcc
            go_wp2_with fail
            go_region_held3 (fun w' => w'.cell? ⟨g2, 0, none⟩ = some (.slice (some ⟨sb, 0, none⟩) c c))
              (first | assumption | go_keep)
              (first
                | (go_at_call 46; refine (len_any (hb := hb) (n := c) (nw := nw) (r := r) (ref := ref) (worst := wo) ?_ hcc).mono ?_; exact HA4.out; rintro e w' ⟨rfl, rfl⟩)
                | (go_at_call 34; refine (awake3_any _).mono ?_; rintro e w5 ⟨rfl, hg5⟩; have hS5 : w5.cell? ⟨g2, 0, none⟩ = some (.slice (some ⟨sb, 0, none⟩) c c) := keep_new hg5 u0))
            have HB5 : Hid (Below w.heap.size w w5) := below_only (below_drewN (w := wr) (by rw [HWx.out]; exact below_drewN HB.out n) 1) (by show w.heap.size ≤ wr.heap.size; rw [HWx.out]; exact hsz) hg5 (by simp)
            clear hg5 hS5 u0
            go_wp2_with fail
            go_ret
            exact ⟨rfl, HB5.out⟩

theorem own : ownKnob Try.prog.godebug = none := by kernel_rfl
theorem laidOut : laidOutB Try.prog = true := by kernel_rfl

set_option maxRecDepth 100000 in
theorem lifted (os : Os) (started : os.Started) (H : Type) (enc : TypeId × Value → H) :
    ReturnsInHanded {} Try.checked os 9 .any (Rows.clockRunsSpec.pre6 enc Try.prog Try.f9 Rows.clockRunsRow.domain false) (Rows.clockRunsSpec.post enc Try.prog Try.f9 false true false false) := by
  refine returnsInHanded_of_change (C := Try.checked) own started (by kernel_rfl) Try.func9
    (ChangeSpec.witness6 (enc := enc) (C := Try.checked) false ⟨#[], #[.int .i64 0, .slice none 0 0], []⟩ 8 (by kernel_rfl) (by kernel_rfl) (by kernel_rfl) (by kernel_rfl)) ?_
  intro W base args ds gs before hval0 hW hcnd _
  have hval : ∀ (j : Nat) t v, Try.f9.params[j]? = some t → args[j]? = some v → Value.okWide Try.prog W .any base t v := hval0
  have hW' := hW
  obtain ⟨p, q, hA0, hV, rfl, hfz, hnd⟩ := hW
  have hA : DataW.TrodAll enc Try.prog W 0 (fun _ => true) true Try.f9.params.toList args.toList ds p := hA0
  rw [Try.params9] at hA hval
  obtain ⟨v0, vs0, d0, ds0, p0, q0, hargs, rfl, rfl, h0, r0⟩ := trodAll_cons hA
  obtain ⟨v1, vs1, d1, ds1, p1, q1, rfl, rfl, rfl, h1, r1⟩ := trodAll_cons r0
  obtain ⟨rfl, rfl, rfl⟩ := trodAll_nil r1
  obtain rfl : args = #[v0, v1] := by cases args; simp_all
  obtain ⟨rfl, rfl⟩ := trodVars_none hV
  obtain ⟨a0, rfl, rfl, rfl, w0⟩ := open_int Try.underlying3 (hval 0 3 v0 rfl rfl) h0
  obtain ⟨a1, len1, cap1, rfl⟩ := okWide_slice Try.underlying49 (hval 1 49 v1 rfl rfl)
  have k1 := h1
  have lt1 : ∀ x ∈ p1, x.block < W.heap.size := by obtain ⟨m, hm⟩ := k1; exact DataW.trod_lt m _ _ _ hm
  obtain ⟨z1, w1, x1⟩ := recs_open Try.underlying49 Try.underlying55 (by kernel_rfl) (by kernel_rfl) (of_decide_eq_true (by kernel_rfl)) h1
  have y1 : ∀ i, i < len1 → (∃ x, z1 i 0 = .int .i64 x ∧ (Lit.int .i64 x).wf = true) ∧ (∃ x, z1 i 1 = .int .i64 x ∧ (Lit.int .i64 x).wf = true) ∧ (∃ x, z1 i 2 = .int .u64 x ∧ (Lit.int .u64 x).wf = true) := fun i hi => ⟨(x1 i hi 0 (of_decide_eq_true (by kernel_rfl)) _ rfl).2 .i64 Try.underlying3, (x1 i hi 1 (of_decide_eq_true (by kernel_rfl)) _ rfl).2 .i64 Try.underlying3, (x1 i hi 2 (of_decide_eq_true (by kernel_rfl)) _ rfl).2 .u64 Try.underlying22⟩
  clear hA0 hval0
  refine (walk a0 a1 len1 cap1 z1 W w0 w1 y1).mono fun e W' ⟨he, bel⟩ => ?_
  subst he
  exact ⟨_, rfl, _, _, _, [], _, [], hW', trodAll_mk1 (shut_bool Try.underlying4 _), (trodAll_cons_mk (shut_int Try.underlying3 w0) (trodAll_cons_mk (Below.trod laidOut (by kernel_rfl) (of_decide_eq_true (by kernel_rfl)) k1 bel lt1) trodAll_mk0)), rfl, bel.frame _, fun h => by cases h⟩

theorem over : Rows.clockRunsRow.holds Try.pinned (OpenSpec.ofChange Rows.clockRunsSpec) :=
  OpenClaim.holds_of_wide 9 Try.f9 rfl rfl rfl rfl rfl rfl rfl ⟨rfl, rfl, rfl, rfl, rfl⟩ rfl rfl rfl rfl rfl (by kernel_rfl) Try.func9 (by kernel_rfl)
    (of_decide_eq_true (by kernel_rfl)) (by unfold Func.isWrapper; first | (rw [if_pos (by decide +kernel)]; kernel_rfl) | (rw [if_neg (by decide +kernel)]; exact ⟨rfl, rfl⟩))
    (fun os started H enc _ => lifted os started H enc)

/-- The statement. -/
theorem proved : Rows.ClockRunsSaid := over
#print axioms proved
end Go.Proofs.Ytmlcjmgclfgbiaa.clockRuns
