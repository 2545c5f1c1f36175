/- ClockApart returns true at every input, and its arguments read as they did: no condition. -/
import Derived.Test.YtmlcjmgclfgbiaaRows
import Derived.WalkKit
import Derived.ProofKit
import Derived.OpenShut
import Derived.ShutString
import Derived.ChangeOld
import Derived.Below
import Derived.WalkSpells
import Derived.WalkLawsBesides
import Derived.Handy
import Derived.Deep.QuietTactic
import Derived.BigQuiet
import Derived.Test.YtmlcjmgclfgbiaaMem
import Derived.Test.YtmlcjmgclfgbiaaFl
import Derived.Test.YtmlcjmgclfgbiaaFlRun
import Derived.Test.YtmlcjmgclfgbiaaClean
import Derived.Test.YtmlcjmgclfgbiaaMove
import Derived.Test.YtmlcjmgclfgbiaaRateW
import Derived.Test.YtmlcjmgclfgbiaaCopy
import Derived.Test.YtmlcjmgclfgbiaaHand
import Derived.Test.YtmlcjmgclfgbiaaTwo
import Derived.Test.YtmlcjmgclfgbiaaClkA
import Derived.Test.YtmlcjmgclfgbiaaClk
import Derived.Test.YtmlcjmgclfgbiaaPassC
import Derived.Test.YtmlcjmgclfgbiaaAw3
import Derived.Test.YtmlcjmgclfgbiaaWorstP
namespace Go.Proofs.Ytmlcjmgclfgbiaa.clockApart
open Go.ChangeShapes Go.WideShapes Go.ChangeAt Go.RowKit
open Go.ChangeMaps (open_string shut_string)
set_option linter.unusedVariables false

open Fl
def ones : Nat → Nat := fun _ => 4607182418800017408
theorem wF_ones {p : Int} (h1 : 1 ≤ p) (h2 : p ≤ 1000) (k : Nat) : wF ones p 0 k = 0 := by
  induction k with
  | zero => rfl
  | succ k ih =>
    show max (wF ones p 0 k) (leastF p (mvI ones p k)) = 0
    rw [ih, mvI_one rfl h1 h2, least_same h1]; rfl
theorem mvI_set {r : Nat → Nat} {x i : Nat} {p : Int} (hx : x < 18446744073709551616) : mvI (upd r i (cl x)) p i = (mv x (clampN p) : Int) := by
  unfold mvI; rw [upd_same, mv_cl x _ hx]
theorem mvI_far {x i j : Nat} {p : Int} (h : j ≠ i) (h1 : 1 ≤ p) (h2 : p ≤ 1000) : mvI (upd ones i x) p j = p := by
  have : upd ones i x j = 4607182418800017408 := upd_other _ _ h
  exact mvI_one this h1 h2
def ApartRel (B g hb g2 hb2 c ii x len : Nat) (w : World) (v13 v14 : Value) (wr : World) : Prop :=
  ∃ (m : Nat) (nw nw2 : Nat → Int) (sum wo : Int), m ≤ len ∧ v14 = .int .i64 m ∧ v13 = .int .i64 sum ∧ ClockIs wr g hb c nw (upd ones ii (cl x)) sum wo ∧ ClockIs wr g2 hb2 c nw2 ones sum 0 ∧
    (∀ i, i < c → 0 ≤ nw i ∧ nw i ≤ 16000 * (m : Int)) ∧ (∀ i, i < c → i ≠ ii → nw i = sum) ∧ (∀ i, i < c → nw2 i = sum) ∧ 0 ≤ sum ∧ sum ≤ 1000 * (m : Int) ∧ 0 ≤ wo ∧ wo ≤ 1001 ∧ Below B w wr ∧ B ≤ wr.heap.size
def ApEnd (c : Nat) (v : Value) : Prop := ∃ j : Nat, j ≤ c ∧ v = .int .i64 j
set_option maxRecDepth 100000 in
set_option maxHeartbeats 4000000 in
theorem walk (a0 a1 a2 : Int) (a3 : Option Addr) (len3 cap3 : Nat) (z3 : List Int) (w : World) (w0 : (Lit.int .u8 a0).wf = true) (w1 : (Lit.int .u8 a1).wf = true) (w2 : (Lit.int .u64 a2).wf = true) (w3 : IsRow .u16 w a3 len3 cap3 z3) :
    Calls Try.prog 10 #[.int .u8 a0, .int .u8 a1, .int .u64 a2, .slice a3 len3 cap3] w fun e w' => e = .returned (.bool true) ∧ Below w.heap.size w w' := by
  have b0 := bounds_u8 w0
  have b1 := bounds_u8 w1
  have b2 := bounds_u64 w2
  obtain ⟨hl, hwz, hc⟩ := w3.at
  clear w0 w1 w2 w3
  have Hc := Lib.hid hc
  have Hz := Lib.hid hwz
  clear hc hwz
  obtain ⟨x, hx⟩ : ∃ x, a2.toNat = x := ⟨_, rfl⟩
  have hxl : x < 18446744073709551616 := by omega
  by_cases h40 : 30 < len3
  · go_enter Try.func10, Try.ntmps10
    go_wp2_with fail
    refine (awake3_any _).mono ?_
    rintro e w1 ⟨rfl, hg⟩
    go_wp2_with fail
    go_ret
    exact ⟨rfl, below_only (Below.refl _ _) (Nat.le_refl _) hg (by simp)⟩
  · have h40' : len3 ≤ 30 := by omega
    clear h40
    obtain ⟨c, hcc⟩ : ∃ c : Nat, 2 + a0 % 10 = (c : Int) := ⟨(2 + a0 % 10).toNat, by omega⟩
    have hc1 : 2 ≤ c := by omega
    have hc2 : c ≤ 11 := by omega
    have hz : ((c : Int) == 0) = false := by rw [beq_eq_false_iff_ne]; omega
    have m1 := Int.emod_nonneg a1 (b := (c : Int)) (by omega)
    have m2 := Int.emod_lt_of_pos a1 (b := (c : Int)) (by omega)
    obtain ⟨ii, hii⟩ : ∃ ii : Nat, a1 % (c : Int) = (ii : Int) := ⟨(a1 % (c : Int)).toNat, by omega⟩
    have hi1 : ii < c := by omega
    have hco : countF (c : Int) = c := countF_id (by omega)
    have HN := new_any (c : Int)
    rw [hco] at HN
    have HNew := Lib.hid HN
    have HCc := Lib.hid hcc
    have HI := Lib.hid hii
    have HX := Lib.hid hx
    clear HN hcc hii m1 m2 hco hx
    go_enter Try.func10, Try.ntmps10
    go_wp2_with fail
    rw [HCc.out]
    refine (HNew.out _).mono ?_
    rintro e w1 ⟨g, hb, rfl, hk1, hg1, l1, l2⟩
    have HK1 := Lib.hid hk1
    have HG1 := Lib.hid hg1
    clear hk1 hg1
    go_wp2_with fail
    refine (HNew.out _).mono ?_
    rintro e w2 ⟨g2, hb2, rfl, hk2, hg2, l3, l4⟩
    have hs1 := HG1.out.size
    have hs2 := hg2.size
    have hg1l : g < w1.heap.size := HK1.out.1.lt
    have hh1l : hb < w1.heap.size := HK1.out.2.lt
    have HK1' : Hid (ClockIs w2 g hb c (fun _ => 0) ones 0 0) := ⟨HK1.out.1.kept hg2 (by simp), HK1.out.2.kept hg2 (by simp)⟩
    have HK2 : Hid (ClockIs w2 g2 hb2 c (fun _ => 0) ones 0 0) := hk2
    have HB2 := Lib.hid (below_only (below_only (Below.refl _ _) (Nat.le_refl _) HG1.out (by simp)) hs1 hg2 (by simp))
    clear hk2 hg2
    go_wp2_with fail
    refine (float_any _ _).mono ?_
    rw [HX.out]
    rintro e w2' ⟨rfl, rfl⟩
    go_wp2_with fail
    rw [HI.out]
    refine (set_yes HK1'.out (by omega) ii x hi1).mono ?_
    rintro e w3 ⟨rfl, hk3, hg3⟩
    have hs3 := hg3.size
    have HK3 := Lib.hid hk3
    have HK4 : Hid (ClockIs w3 g2 hb2 c (fun _ => 0) ones 0 0) := ⟨HK2.out.1.kept hg3 (by intro e; injection e with e; omega), HK2.out.2.kept hg3 (by intro e; injection e with e; omega)⟩
    have HS : Hid (ApartRel w.heap.size g hb g2 hb2 c ii x len3 w (.int .i64 0) (.int .i64 0) w3) :=
      ⟨0, _, _, 0, 0, by omega, rfl, rfl, HK3.out, HK4.out, fun i _ => by omega, fun _ _ _ => rfl, fun _ _ => rfl, by omega, by omega, by omega, by omega, below_only HB2.out (by omega) hg3 (by intro g' e; injection e with e; omega), by omega⟩
    have hg2l : g2 < w3.heap.size := HK4.out.1.lt
    have hh2l : hb2 < w3.heap.size := HK4.out.2.lt
    clear hk3 hg3
    go_wp2_with fail
    go_loopw [13, 14] (fun v13 v14 wr => ApartRel w.heap.size g hb g2 hb2 c ii x len3 w v13 v14 wr) (fun _ v14 _ => len3 - (intOf v14).toNat)
    case atStart => exact HS.out
    case round =>
      clear HS
      obtain ⟨m, nw, nw2, sum, wo, hm, rfl, rfl, hka, hkb, hn1, hn2, hn3, hs5, hs6, ho1, ho2, hbel, hsz⟩ := hrel
      have HA := Lib.hid hka
      have HBk := Lib.hid hkb
      have HN1 := Lib.hid hn1
      have HN2 := Lib.hid hn2
      have HN3 := Lib.hid hn3
      have HB := Lib.hid hbel
      have ga := hka.1.lt
      have ha := hka.2.lt
      have gb := hkb.1.lt
      have hbb := hkb.2.lt
      clear hka hkb hn1 hn2 hn3 hbel
      by_cases hlt : m < len3
      · obtain ⟨bk, off, ha3, hbk, hcell⟩ := Hc.out (by omega)
        subst ha3
        have c1 := row_below hcell HB.out hbk m hlt
        have hzz := bounds_u16 (Hz.out m hlt)
        clear hcell
        have hi0 : (0 : Int) ≤ (m : Int) := by omega
        have hi2 : (m : Int) < (len3 : Int) := by omega
        obtain ⟨p, hp⟩ : ∃ p, 1 + zat z3 m % 1000 = p := ⟨_, rfl⟩
        have hp1 : 1 ≤ p := by omega
        have hp2 : p ≤ 1000 := by omega
        have HP := Lib.hid hp
        clear hp
        have hrr : ∀ i, upd ones ii (cl x) i < 18446744073709551616 := fun i => by
          have := (cl_spec x hxl).1
          unfold upd ones; split <;> omega
        have HRr := Lib.hid hrr
        clear hrr
        go_wp2_with fail
        rw [HP.out]
        refine (pass_yes g hb c nw (upd ones ii (cl x)) sum wo p _ HA.out (by omega) (fun i hi => by have := HN1.out i hi; omega) (fun i _ => HRr.out i) (by omega) (by omega) hp1 hp2).mono ?_
        rintro e w4 ⟨rfl, hk4, hb4, ho4⟩
        have hs4 := ho4.size
        have HK5 := Lib.hid hk4
        have HM5 := Lib.hid hb4
        have HL5 := Lib.hid (HBk.out.kept ho4 (by omega) (by omega) (by omega) (by omega))
        have HB5 := Lib.hid (Only2.below HB.out hsz ho4 (by omega) (by omega))
        clear hk4 hb4 ho4 c1
        go_wp2_with fail
        refine (pass_yes g2 hb2 c nw2 ones sum 0 p _ HL5.out (by omega) (fun i hi => by have := HN3.out i hi; omega) (fun i _ => by unfold ones; omega) (by omega) (by omega) hp1 hp2).mono ?_
        rintro e w5 ⟨rfl, hk6, hb6, ho6⟩
        rw [wF_ones hp1 hp2] at hk6
        have hs7 := ho6.size
        have HK7 := Lib.hid (HK5.out.kept ho6 (by omega) (by omega) (by omega) (by omega))
        have HL7 := Lib.hid hk6
        have HM7 := Lib.hid (HM5.out.kept2 ho6 (by omega) (by omega))
        have HB7 := Lib.hid (Only2.below HB5.out (by omega) ho6 (by omega) (by omega))
        have cm : w5.cell? ⟨wr.heap.size, ii, none⟩ = some (.int .i64 (mvI (upd ones ii (cl x)) p ii)) := (HM7.out.cell ii).trans (by rw [intA_get, if_pos hi1])
        have hmb := mvI_bd (r := upd ones ii (cl x)) (n := p) (i := ii) (HRr.out ii)
        have HMv : Hid (∀ q, Calls Try.prog 18 #[.float .f64 x, .int .i64 p] (w5.drewN q) fun e w' => e = .returned (.int .i64 (mvI (upd ones ii (cl x)) p ii)) ∧ w5.drewN q = w') := fun q => by
          rw [mvI_set hxl]; exact move_any x hxl p _
        have HFl : Hid (∀ q, Calls Try.prog 14 #[.int .u64 a2] (w5.drewN q) fun e w' => e = .returned (.float .f64 x) ∧ w5.drewN q = w') := fun q => by
          rw [← HX.out]; exact float_any a2 _
        have HN : ∀ q, Hid (ApartRel w.heap.size g hb g2 hb2 c ii x len3 w (.int .i64 (sum + p)) (.int .i64 ((m : Int) + 1)) (w5.drewN q)) := fun q =>
          ⟨m + 1, _, _, _, _, by omega, by go_num, rfl, ⟨HK7.out.1.drewN q, HK7.out.2.drewN q⟩, ⟨HL7.out.1.drewN q, HL7.out.2.drewN q⟩,
            fun i hi => by
              have := HN1.out i hi
              have := mvI_bd (r := upd ones ii (cl x)) (n := p) (i := i) (HRr.out i)
              show (0 : Int) ≤ nw i + mvI (upd ones ii (cl x)) p i ∧ nw i + mvI (upd ones ii (cl x)) p i ≤ _
              omega,
            fun i hi hne => by
              show nw i + mvI (upd ones ii (cl x)) p i = _
              rw [mvI_far hne hp1 hp2, HN2.out i hi hne],
            fun i hi => by
              show nw2 i + mvI ones p i = _
              rw [mvI_one rfl hp1 hp2, HN3.out i hi],
            by omega, by omega, (wF_bd hp1 ho1 ho2 c).1, (wF_bd hp1 ho1 ho2 c).2, below_drewN HB7.out q, by show w.heap.size ≤ w5.heap.size; omega⟩
        have hj0 : (0 : Int) ≤ (ii : Int) := by omega
        have hj1 : (ii : Int) < (c : Int) := by omega
        clear hk6 hb6 ho6
        generalize mvI (upd ones ii (cl x)) p ii = mm at *
        go_wp2_with fail
        go_quiet ((first | (go_at_call 14; exact quiet_left (HFl.out _)) | (go_at_call 18; exact quiet_left (HMv.out _))))
        go_wp2_with fail
        exact ⟨(HN _).out, by simp [intOf]; omega⟩
      · have : m = len3 := by omega
        subst this
        have HS : Hid (ApEnd c (.int .i64 0)) := ⟨0, by omega, rfl⟩
        have hi0 : (0 : Int) ≤ (ii : Int) := by omega
        go_wp2_with fail
        go_loop [20] (fun v => ApEnd c v) (fun v => c - (intOf v).toNat)
        case atStart => exact HS.out
        case round =>
          clear HS
          obtain ⟨j, hj, rfl⟩ := hrel
          have hj0 : (0 : Int) ≤ (j : Int) := by omega
          by_cases hjc : j < c
          · have e2 := HN3.out j hjc
            have hj1 : (j : Int) < (c : Int) := by omega
            have HN : Hid (ApEnd c (.int .i64 ((j : Int) + 1))) := ⟨j + 1, by omega, by go_num⟩
            have HD : Hid (Calls Try.prog 44 #[.pointer (some ⟨g2, 0, none⟩), .int .i64 (j : Int)] wr fun e w' => e = .returned (.int .i64 sum) ∧ wr = w') := by
              show Calls _ _ _ _ _
              rw [← e2]; exact now_yes HBk.out (by omega) j hjc
            clear e2
            by_cases hji : j = ii
            · subst hji
              go_wp2_with fail
              refine HD.out.mono ?_
              rintro e w9 ⟨rfl, rfl⟩
              go_wp2_with fail
              exact ⟨HN.out, by simp [intOf]; omega⟩
            · have hd : ((j : Int) != (ii : Int)) = true := by rw [bne_iff_ne]; omega
              have e1 := HN2.out j hjc hji
              have HE : Hid (Calls Try.prog 44 #[.pointer (some ⟨g, 0, none⟩), .int .i64 (j : Int)] wr fun e w' => e = .returned (.int .i64 sum) ∧ wr = w') := by
                show Calls _ _ _ _ _
                rw [← e1]; exact now_yes HA.out (by omega) j hjc
              clear e1
              go_wp2_with fail
              refine HE.out.mono ?_
              rintro e w9 ⟨rfl, rfl⟩
              go_wp2_with fail
              refine HD.out.mono ?_
              rintro e w9 ⟨rfl, rfl⟩
              go_wp2_with fail
              exact ⟨HN.out, by simp [intOf]; omega⟩
          · go_wp2_with fail
            refine (ref_any HA.out).mono ?_
            rintro e w9 ⟨rfl, rfl⟩
            go_wp2_with fail
            refine (worst_any HBk.out).mono ?_
            rintro e w9 ⟨rfl, rfl⟩
            go_wp2_with fail
            refine (awake3_any _).mono ?_
            rintro e w9 ⟨rfl, hg9⟩
            go_wp2_with fail
            go_ret
            exact ⟨rfl, below_only HB.out hsz hg9 (by simp)⟩

theorem own : ownKnob Try.prog.godebug = none := by kernel_rfl
theorem laidOut : laidOutB Try.prog = true := by kernel_rfl

set_option maxRecDepth 100000 in
theorem lifted (os : Os) (started : os.Started) (H : Type) (enc : TypeId × Value → H) :
    ReturnsInHanded {} Try.checked os 10 .any (Rows.clockApartSpec.pre6 enc Try.prog Try.f10 Rows.clockApartRow.domain false) (Rows.clockApartSpec.post enc Try.prog Try.f10 false true false false) := by
  refine returnsInHanded_of_change (C := Try.checked) own started (by kernel_rfl) Try.func10
    (ChangeSpec.witness6 (enc := enc) (C := Try.checked) false ⟨#[], #[.int .u8 0, .int .u8 0, .int .u64 0, .slice none 0 0], []⟩ 8 (by kernel_rfl) (by kernel_rfl) (by kernel_rfl) (by kernel_rfl)) ?_
  intro W base args ds gs before hval0 hW hcnd _
  have hval : ∀ (j : Nat) t v, Try.f10.params[j]? = some t → args[j]? = some v → Value.okWide Try.prog W .any base t v := hval0
  have hW' := hW
  obtain ⟨p, q, hA0, hV, rfl, hfz, hnd⟩ := hW
  have hA : DataW.TrodAll enc Try.prog W 0 (fun _ => true) true Try.f10.params.toList args.toList ds p := hA0
  rw [Try.params10] at hA hval
  obtain ⟨v0, vs0, d0, ds0, p0, q0, hargs, rfl, rfl, h0, r0⟩ := trodAll_cons hA
  obtain ⟨v1, vs1, d1, ds1, p1, q1, rfl, rfl, rfl, h1, r1⟩ := trodAll_cons r0
  obtain ⟨v2, vs2, d2, ds2, p2, q2, rfl, rfl, rfl, h2, r2⟩ := trodAll_cons r1
  obtain ⟨v3, vs3, d3, ds3, p3, q3, rfl, rfl, rfl, h3, r3⟩ := trodAll_cons r2
  obtain ⟨rfl, rfl, rfl⟩ := trodAll_nil r3
  obtain rfl : args = #[v0, v1, v2, v3] := by cases args; simp_all
  obtain ⟨rfl, rfl⟩ := trodVars_none hV
  obtain ⟨a0, rfl, rfl, rfl, w0⟩ := open_int Try.underlying5 (hval 0 5 v0 rfl rfl) h0
  obtain ⟨a1, rfl, rfl, rfl, w1⟩ := open_int Try.underlying5 (hval 1 5 v1 rfl rfl) h1
  obtain ⟨a2, rfl, rfl, rfl, w2⟩ := open_int Try.underlying22 (hval 2 22 v2 rfl rfl) h2
  obtain ⟨a3, len3, cap3, rfl⟩ := okWide_slice Try.underlying67 (hval 3 67 v3 rfl rfl)
  have k3 := h3
  have lt3 : ∀ x ∈ p3, x.block < W.heap.size := by obtain ⟨m, hm⟩ := k3; exact DataW.trod_lt m _ _ _ hm
  obtain ⟨z3, w3⟩ : ∃ zs, IsRow .u16 W a3 len3 cap3 zs := by
    obtain ⟨fuel, hf⟩ := h3
    rcases open_ints Try.underlying67 Try.underlying37 (by kernel_rfl) hf with ⟨hcs, _⟩ | ⟨x, l, c, zs, hcs, _, hl, hm, hz, _, hcell, hwz⟩
    · simp [Value.cells] at hcs
      obtain ⟨rfl, rfl, rfl⟩ := hcs
      exact ⟨[], .inl ⟨rfl, rfl, rfl, rfl⟩⟩
    · simp [Value.cells] at hcs
      obtain ⟨rfl, rfl, rfl⟩ := hcs
      exact ⟨zs, .inr ⟨_, rfl, hl, hm, by simpa using hz, hcell, hwz⟩⟩
  clear hA0 hval0
  refine (walk a0 a1 a2 a3 len3 cap3 z3 W w0 w1 w2 w3).mono fun e W' ⟨he, bel⟩ => ?_
  subst he
  exact ⟨_, rfl, _, _, _, [], _, [], hW', trodAll_mk1 (shut_bool Try.underlying4 _), (trodAll_cons_mk (shut_int Try.underlying5 w0) (trodAll_cons_mk (shut_int Try.underlying5 w1) (trodAll_cons_mk (shut_int Try.underlying22 w2) (trodAll_cons_mk (Below.trod laidOut (by kernel_rfl) (of_decide_eq_true (by kernel_rfl)) k3 bel lt3) trodAll_mk0)))), rfl, bel.frame _, fun h => by cases h⟩

theorem over : Rows.clockApartRow.holds Try.pinned (OpenSpec.ofChange Rows.clockApartSpec) :=
  OpenClaim.holds_of_wide 10 Try.f10 rfl rfl rfl rfl rfl rfl rfl ⟨rfl, rfl, rfl, rfl, rfl⟩ rfl rfl rfl rfl rfl (by kernel_rfl) Try.func10 (by kernel_rfl)
    (of_decide_eq_true (by kernel_rfl)) (by unfold Func.isWrapper; first | (rw [if_pos (by decide +kernel)]; kernel_rfl) | (rw [if_neg (by decide +kernel)]; exact ⟨rfl, rfl⟩))
    (fun os started H enc _ => lifted os started H enc)

/-- The statement. -/
theorem proved : Rows.ClockApartSaid := over
#print axioms proved
end Go.Proofs.Ytmlcjmgclfgbiaa.clockApart
