/- GaugeWaits returns true at every input, and its arguments read as they did: no condition. -/
import Derived.Test.YtpjefioopbnolaaRows
import Derived.WalkKit
import Derived.ProofKit
import Derived.OpenShut
import Derived.ShutString
import Derived.ChangeOld
import Derived.Below
import Derived.WalkSpells
import Derived.WalkLawsBesides
import Derived.Handy
import Derived.Outline
import Derived.Deep.QuietTactic
import Derived.BigQuiet
import Derived.Deep.RegionHeld3
import Derived.Deep.AppendLies
import Derived.Test.YtpjefioopbnolaaMem
import Derived.Test.YtpjefioopbnolaaFl
import Derived.Test.YtpjefioopbnolaaFlRun
import Derived.Test.YtpjefioopbnolaaAlike
import Derived.Test.YtpjefioopbnolaaApp
import Derived.Test.YtpjefioopbnolaaGauV
import Derived.Test.YtpjefioopbnolaaMaxG
import Derived.Test.YtpjefioopbnolaaBits2
import Derived.Test.YtpjefioopbnolaaInf
import Derived.Test.YtpjefioopbnolaaGauS
import Derived.Test.YtpjefioopbnolaaGrade
import Derived.Test.YtpjefioopbnolaaMost
import Derived.Test.YtpjefioopbnolaaFair
import Derived.Test.YtpjefioopbnolaaAw30
import Derived.Test.YtpjefioopbnolaaFloats
import Derived.Test.YtpjefioopbnolaaWaitsV
import Derived.Test.YtpjefioopbnolaaWaitsC
namespace Go.Proofs.Ytpjefioopbnolaa.gaugeWaits
open Go.ChangeShapes Go.WideShapes Go.ChangeAt Go.RowKit
open Go.ChangeMaps (open_string shut_string)
set_option linter.unusedVariables false

open Fl
def sdL (s h : Int) : List Value := [.int .i64 0, .int .i64 0, .int .i64 0, .int .i64 0, .string { data := #[] }, .int .i64 s, .int .i64 h, .int .i64 0, .int .i64 0, .int .i64 0, .slice none 0 0]
def sdRow (s h : Nat → Int) : Nat → List Value
  | 0 => []
  | k + 1 => sdRow s h k ++ sdL (s k) (h k)
theorem sdRow_len (s h : Nat → Int) (k : Nat) : (sdRow s h k).length = k * 11 := by
  induction k with
  | zero => rfl
  | succ k ih => unfold sdRow; rw [List.length_append, ih, Nat.add_mul]; rfl
theorem sdL_get (s h : Int) (j : Nat) (hj : j < 11) : (sdL s h)[j]? = some (sdV s h j) := by
  match j, hj with
  | 0, _ => rfl
  | 1, _ => rfl
  | 2, _ => rfl
  | 3, _ => rfl
  | 4, _ => rfl
  | 5, _ => rfl
  | 6, _ => rfl
  | 7, _ => rfl
  | 8, _ => rfl
  | 9, _ => rfl
  | 10, _ => rfl
theorem sdRow_get (s h : Nat → Int) {k i j : Nat} (hi : i < k) (hj : j < 11) : (sdRow s h k)[i * 11 + j]? = some (sdV (s i) (h i) j) := by
  induction k with
  | zero => omega
  | succ k ih =>
    unfold sdRow
    have hl := sdRow_len s h k
    by_cases e : i = k
    · subst e
      rw [List.getElem?_append_right (by omega), hl, Nat.add_sub_cancel_left]
      exact sdL_get _ _ _ hj
    · rw [List.getElem?_append_left (by omega)]
      exact ih (by omega)
theorem infoS : (Try.prog.info? 55).map (fun i => (i.zero, i.size, i.bytes)) = some (some (.agg (sdL 0 0).toArray), 11, 112) := by kernel_rfl
theorem own_sd {w : World} {B : Nat} {v : Value} {n : Nat} {s h : Nat → Int} (H : w.ownsRow B 55 11 v n (sdRow s h n)) (hn : n ≤ 1000) :
    ∃ a cap, v = .slice a n cap ∧ IsSd w a n s h := by
  rcases H.2 with ⟨rfl, rfl⟩ | ⟨g, cap, cur, rfl, _, hg, hnc, hcm, hcs, htake⟩
  · exact ⟨none, 0, rfl, by omega, fun hi => by omega⟩
  · refine ⟨_, cap, rfl, by omega, fun hp => ⟨g, 0, rfl, lt_of_block hg, fun i hi j hj => ?_⟩⟩
    have := H.cells (g := g) rfl (i * 11 + j) _ (sdRow_get s h hi hj)
    rw [addr_add] at this
    rw [show 0 + i * 11 + j = 0 + (i * 11 + j) by omega]
    exact this
def SdRel (s h : Nat → Int) (len : Nat) (w : World) (v i : Value) (wr : World) : Prop :=
  ∃ k : Nat, k ≤ len ∧ i = .int .i64 k ∧ wr.ownsRow w.heap.size 55 11 v k (sdRow s h k) ∧ w.grownBy wr none
def CmRel (len : Nat) (W : World) (i : Value) (wr : World) : Prop := ∃ k n : Nat, k ≤ len ∧ i = .int .i64 k ∧ wr = W.drewN n
theorem drewN_addW (w : World) (n m : Nat) : (w.drewN n).drewN m = w.drewN (n + m) := by unfold World.drewN; simp [Nat.add_assoc]
set_option maxRecDepth 100000 in
set_option maxHeartbeats 4000000 in
theorem walk (a0 : Option Addr) (len0 cap0 : Nat) (z0 : List Int) (a1 : Option Addr) (len1 cap1 : Nat) (z1 : List Int) (w : World) (w0 : IsRow .i64 w a0 len0 cap0 z0) (w1 : IsRow .i64 w a1 len1 cap1 z1) :
    Calls Try.prog 7 #[.slice a0 len0 cap0, .slice a1 len1 cap1] w fun e w' => e = .returned (.bool true) ∧ Below w.heap.size w w' := by
  obtain ⟨hl, hwz, hc⟩ := w0.at
  obtain ⟨hl1, hwz1, hc1⟩ := w1.at
  obtain ⟨S, hS⟩ : ∃ S, zat z0 = S := ⟨_, rfl⟩
  obtain ⟨T, hT⟩ : ∃ T, zat z1 = T := ⟨_, rfl⟩
  rw [hS] at hc
  rw [hT] at hc1
  have Hc := Lib.hid hc
  have Hc1 := Lib.hid hc1
  clear w0 w1 hc hc1 hwz hwz1 hS hT
  by_cases hbig : 40 < len0 ∨ len1 < len0
  · have h0 : (40 < len0) ∨ (¬ 40 < len0 ∧ len1 < len0) := by omega
    clear hbig
    go_enter Try.func7, Try.ntmps7
    rcases h0 with h1 | ⟨h1, h2⟩
    · go_wp2_with fail
      refine (awake30_any _).mono ?_
      rintro e w7 ⟨rfl, hg⟩
      go_wp2_with fail
      go_ret
      exact ⟨rfl, below_only (Below.refl _ _) (Nat.le_refl _) hg (by simp)⟩
    · go_wp2_with fail
      refine (awake30_any _).mono ?_
      rintro e w7 ⟨rfl, hg⟩
      go_wp2_with fail
      go_ret
      exact ⟨rfl, below_only (Below.refl _ _) (Nat.le_refl _) hg (by simp)⟩
  have h40 : len0 ≤ 40 := by omega
  have hle : len0 ≤ len1 := by omega
  clear hbig
  have hd1 : ¬ 40 < len0 := by omega
  have hd2 : ¬ len1 < len0 := by omega
  obtain ⟨i0, hi, hz0, hz1, hz2⟩ := info_parts infoS
  have HI1 := Lib.hid hi
  have HI2 := Lib.hid hz0
  have HI3 := Lib.hid hz1
  have HI4 := Lib.hid hz2
  clear hi hz0 hz1 hz2
  have HS : Hid (SdRel S T len0 w (.slice none 0 0) (.int .i64 0) w) := ⟨0, by omega, rfl, World.ownsRow_nil _ _ _ _, only_refl _ _⟩
  go_enter Try.func7, Try.ntmps7
  go_wp2_with fail
  go_loopw [5, 6] (fun v i wr => SdRel S T len0 w v i wr) (fun _ i _ => len0 - (intOf i).toNat)
  case atStart => exact HS.out
  case round =>
    clear HS
    obtain ⟨k, hk, rfl, ho, hg⟩ := hrel
    have HO := Lib.hid ho
    have HG := Lib.hid hg
    have hsz : w.heap.size ≤ wr.heap.size := hg.size
    clear ho hg
    by_cases hlt : k < len0
    · obtain ⟨g, off, rfl, hglt, hcell⟩ := Hc.out (by omega)
      obtain ⟨g', off', rfl, hglt', hcell'⟩ := Hc1.out (by omega)
      have hi0 : (0 : Int) ≤ (k : Int) := by omega
      have hi1 : (k : Int) < (len0 : Int) := by omega
      have hi2 : (k : Int) < (len1 : Int) := by omega
      have C1 := Lib.hid (hcell k hlt)
      have C2 := Lib.hid (hcell' k (by omega))
      have c1 := keep_new HG.out C1.out
      have c2 := keep_new HG.out C2.out
      have hrow : sdRow S T (k + 1) = sdRow S T k ++ sdL (S k) (T k) := rfl
      have HR := Lib.hid hrow
      generalize S k = s at *
      generalize T k = h at *
      clear hcell hcell' hrow
      go_wp2_with fail
      go_region_held3 (fun w' => w'.cell? ⟨g, off + k, none⟩ = some (.int .i64 s) ∧ w'.cell? ⟨g', off' + k, none⟩ = some (.int .i64 h))
        (first | go_keep | exact ⟨p1, p2⟩)
        ((refine step_append_lies _ (by rfl) (.tmp 27) (.tmp 37) 45 (by rfl) w.heap.size 55 i0 _ 11 112 Try.underlying45 HI1.out HI2.out HI3.out HI4.out (by rfl) (by omega) _ k _ (by rfl) ((HO.out.alloc _).drew)
            ⟨wr.heap.size, 0, none⟩ 1 1 (sdL s h) (by rfl) (by rfl) (World.news_of_block (cs := (sdL s h).toArray) (t := 55) (fr := (0, 0)) (heap_alloc_new wr _)) (by simp [sdL, Value.oneCell'])
            (by omega) (by unfold maxLen; omega) (by omega) (by simp; omega) (wr.heap.size + 1) (by simp) ?_; intro gg cap w1 hown1 hgrow hat hlt1; have HG1 := Lib.hid (grow_own (only_drew (only_alloc HG.out _)) hgrow (own_ge HO.out)); have p1 := keep_new HG1.out C1.out; have p2 := keep_new HG1.out C2.out; rw [← HR.out] at hown1; have HO1 := Lib.hid hown1; clear hown1 hgrow hat hlt1))
      go_wp2_with fail
      exact ⟨⟨k + 1, by omega, by go_num, HO1.out, HG1.out⟩, by simp [intOf]; omega⟩
    · have : k = len0 := by omega
      subst this
      obtain ⟨a', c', rfl, h3⟩ := own_sd HO.out (by omega)
      have H3 := Lib.hid h3
      clear h3 HO HI1 HI2 HI3 HI4
      obtain ⟨wx, rfl⟩ : ∃ wx : World, wx = wr := ⟨_, rfl⟩
      go_wp2_with fail
      refine (waits_any _ _ _ _ _ _ H3.out (by omega)).mono ?_
      rintro e w2 ⟨aa, ca, r, rfl, hr, hrf, hg2⟩
      have HR := Lib.hid hr
      have HRF := Lib.hid hrf
      have H32 := Lib.hid (H3.out.kept hg2)
      have HG2 := Lib.hid (only_trans HG.out hg2)
      clear hr hrf hg2
      go_wp2_with fail
      refine (rwaits_any _ _ _ _ _ _ H32.out (by omega)).mono ?_
      rintro e w3 ⟨ab, cb, q, rfl, hq, hqf, hg3⟩
      have HQ := Lib.hid hq
      have HAL : Hid (∀ i, i < k → al (r i) (q i) = true) := fun i hi => al_fits (HRF.out i hi) (hqf i hi)
      have HR3 := Lib.hid (HR.out.kept hg3)
      have HG3 := Lib.hid (only_trans HG2.out hg3)
      clear hq hqf hg3 HRF H32 HR HG2 HG H3
      have HS : Hid (CmRel k w3 (.int .i64 0) w3) := ⟨0, 0, by omega, rfl, rfl⟩
      have hkk : ((k : Int) != (k : Int)) = false := by simp
      go_wp2_with fail
      go_loopw [9] (fun i wr => CmRel k w3 i wr) (fun i _ => k - (intOf i).toNat)
      case atStart => exact HS.out
      case round =>
        clear HS
        obtain ⟨m, n, hm, rfl, rfl⟩ := hrel
        by_cases hlt : m < k
        · obtain ⟨g1, o1, rfl, hgl1, hcell1⟩ := HR3.out.2.2 (by omega)
          obtain ⟨g2, o2, rfl, hgl2, hcell2⟩ := HQ.out.2.2 (by omega)
          have c1 : (w3.drewN n).cell? ⟨g1, o1 + m, none⟩ = some (.float .f64 (r m)) := hcell1 m hlt
          have c2 : (w3.drewN n).cell? ⟨g2, o2 + m, none⟩ = some (.float .f64 (q m)) := hcell2 m hlt
          have hal := HAL.out m hlt
          have hi0 : (0 : Int) ≤ (m : Int) := by omega
          have hi1 : (m : Int) < (k : Int) := by omega
          generalize r m = x at *
          generalize q m = y at *
          have HC : Hid (∀ p, Calls Try.prog 10 #[.float .f64 x, .float .f64 y] ((w3.drewN n).drewN p) fun e w' => e = .returned (.bool true) ∧ (w3.drewN n).drewN p = w') := fun p => by
            have := alike_any x y ((w3.drewN n).drewN p)
            rw [hal] at this; exact this
          have HN : ∀ p, Hid (CmRel k w3 (.int .i64 ((m : Int) + 1)) ((w3.drewN n).drewN p)) := fun p => ⟨m + 1, n + p, by omega, by go_num, drewN_addW _ _ _⟩
          clear hcell1 hcell2 hal
          obtain ⟨wy, hwy⟩ : ∃ wy : World, w3.drewN n = wy := ⟨_, rfl⟩
          rw [hwy] at c1 c2 HC HN
          rw [hwy]
          clear hwy
          go_wp2_with fail
          go_quiet ((go_at_call 10; exact quiet_left (HC.out _)))
          go_wp2_with fail
          exact ⟨(HN _).out, by simp [intOf]; omega⟩
        · have : m = k := by omega
          subst this
          go_wp2_with fail
          refine (awake30_any _).mono ?_
          rintro e w4 ⟨rfl, hg4⟩
          go_wp2_with fail
          go_ret
          exact ⟨rfl, below_only (Below.refl _ _) (Nat.le_refl _) (only_trans (only_drewN HG3.out n) hg4) (by simp)⟩

theorem own : ownKnob Try.prog.godebug = none := by kernel_rfl
theorem laidOut : laidOutB Try.prog = true := by kernel_rfl

set_option maxRecDepth 100000 in
theorem lifted (os : Os) (started : os.Started) (H : Type) (enc : TypeId × Value → H) :
    ReturnsInHanded {} Try.checked os 7 .any (Rows.gaugeWaitsSpec.pre6 enc Try.prog Try.f7 Rows.gaugeWaitsRow.domain false) (Rows.gaugeWaitsSpec.post enc Try.prog Try.f7 false true false false) := by
  refine returnsInHanded_of_change (C := Try.checked) own started (by kernel_rfl) Try.func7
    (ChangeSpec.witness6 (enc := enc) (C := Try.checked) false ⟨#[], #[.slice none 0 0, .slice none 0 0], []⟩ 8 (by kernel_rfl) (by kernel_rfl) (by kernel_rfl) (by kernel_rfl)) ?_
  intro W base args ds gs before hval0 hW hcnd _
  have hval : ∀ (j : Nat) t v, Try.f7.params[j]? = some t → args[j]? = some v → Value.okWide Try.prog W .any base t v := hval0
  have hW' := hW
  obtain ⟨p, q, hA0, hV, rfl, hfz, hnd⟩ := hW
  have hA : DataW.TrodAll enc Try.prog W 0 (fun _ => true) true Try.f7.params.toList args.toList ds p := hA0
  rw [Try.params7] at hA hval
  obtain ⟨v0, vs0, d0, ds0, p0, q0, hargs, rfl, rfl, h0, r0⟩ := trodAll_cons hA
  obtain ⟨v1, vs1, d1, ds1, p1, q1, rfl, rfl, rfl, h1, r1⟩ := trodAll_cons r0
  obtain ⟨rfl, rfl, rfl⟩ := trodAll_nil r1
  obtain rfl : args = #[v0, v1] := by cases args; simp_all
  obtain ⟨rfl, rfl⟩ := trodVars_none hV
  obtain ⟨a0, len0, cap0, rfl⟩ := okWide_slice Try.underlying44 (hval 0 44 v0 rfl rfl)
  have k0 := h0
  have lt0 : ∀ x ∈ p0, x.block < W.heap.size := by obtain ⟨m, hm⟩ := k0; exact DataW.trod_lt m _ _ _ hm
  obtain ⟨z0, w0⟩ : ∃ zs, IsRow .i64 W a0 len0 cap0 zs := by
    obtain ⟨fuel, hf⟩ := h0
    rcases open_ints Try.underlying44 Try.underlying3 (by kernel_rfl) hf with ⟨hcs, _⟩ | ⟨x, l, c, zs, hcs, _, hl, hm, hz, _, hcell, hwz⟩
    · simp [Value.cells] at hcs
      obtain ⟨rfl, rfl, rfl⟩ := hcs
      exact ⟨[], .inl ⟨rfl, rfl, rfl, rfl⟩⟩
    · simp [Value.cells] at hcs
      obtain ⟨rfl, rfl, rfl⟩ := hcs
      exact ⟨zs, .inr ⟨_, rfl, hl, hm, by simpa using hz, hcell, hwz⟩⟩
  obtain ⟨a1, len1, cap1, rfl⟩ := okWide_slice Try.underlying44 (hval 1 44 v1 rfl rfl)
  have k1 := h1
  have lt1 : ∀ x ∈ p1, x.block < W.heap.size := by obtain ⟨m, hm⟩ := k1; exact DataW.trod_lt m _ _ _ hm
  obtain ⟨z1, w1⟩ : ∃ zs, IsRow .i64 W a1 len1 cap1 zs := by
    obtain ⟨fuel, hf⟩ := h1
    rcases open_ints Try.underlying44 Try.underlying3 (by kernel_rfl) hf with ⟨hcs, _⟩ | ⟨x, l, c, zs, hcs, _, hl, hm, hz, _, hcell, hwz⟩
    · simp [Value.cells] at hcs
      obtain ⟨rfl, rfl, rfl⟩ := hcs
      exact ⟨[], .inl ⟨rfl, rfl, rfl, rfl⟩⟩
    · simp [Value.cells] at hcs
      obtain ⟨rfl, rfl, rfl⟩ := hcs
      exact ⟨zs, .inr ⟨_, rfl, hl, hm, by simpa using hz, hcell, hwz⟩⟩
  clear hA0 hval0
  refine (walk a0 len0 cap0 z0 a1 len1 cap1 z1 W w0 w1).mono fun e W' ⟨he, bel⟩ => ?_
  subst he
  exact ⟨_, rfl, _, _, _, [], _, [], hW', trodAll_mk1 (shut_bool Try.underlying4 _), (trodAll_cons_mk (Below.trod laidOut (by kernel_rfl) (of_decide_eq_true (by kernel_rfl)) k0 bel lt0) (trodAll_cons_mk (Below.trod laidOut (by kernel_rfl) (of_decide_eq_true (by kernel_rfl)) k1 bel lt1) trodAll_mk0)), rfl, bel.frame _, fun h => by cases h⟩

theorem over : Rows.gaugeWaitsRow.holds Try.pinned (OpenSpec.ofChange Rows.gaugeWaitsSpec) :=
  OpenClaim.holds_of_wide 7 Try.f7 rfl rfl rfl rfl rfl rfl rfl ⟨rfl, rfl, rfl, rfl, rfl⟩ rfl rfl rfl rfl rfl (by kernel_rfl) Try.func7 (by kernel_rfl)
    (of_decide_eq_true (by kernel_rfl)) (by unfold Func.isWrapper; first | (rw [if_pos (by decide +kernel)]; kernel_rfl) | (rw [if_neg (by decide +kernel)]; exact ⟨rfl, rfl⟩))
    (fun os started H enc _ => lifted os started H enc)

/-- The statement. -/
theorem proved : Rows.GaugeWaitsSaid := over
#print axioms proved
end Go.Proofs.Ytpjefioopbnolaa.gaugeWaits
