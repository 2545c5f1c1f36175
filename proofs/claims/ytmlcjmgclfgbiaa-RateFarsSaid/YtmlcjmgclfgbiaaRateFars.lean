/- RateFars returns true at every input, and its arguments read as they did: no condition. -/
import Derived.Test.YtmlcjmgclfgbiaaRows
import Derived.WalkKit
import Derived.ProofKit
import Derived.OpenShut
import Derived.ShutString
import Derived.ChangeOld
import Derived.Below
import Derived.WalkSpells
import Derived.WalkLawsBesides
import Derived.Handy
import Derived.Deep.QuietTactic
import Derived.BigQuiet
import Derived.Test.YtmlcjmgclfgbiaaMem
import Derived.Test.YtmlcjmgclfgbiaaFl
import Derived.Test.YtmlcjmgclfgbiaaFlRun
import Derived.Test.YtmlcjmgclfgbiaaClean
import Derived.Test.YtmlcjmgclfgbiaaMove
import Derived.Test.YtmlcjmgclfgbiaaOf
import Derived.Test.YtmlcjmgclfgbiaaBits
import Derived.Test.YtmlcjmgclfgbiaaFar
import Derived.Test.YtmlcjmgclfgbiaaRateW
import Derived.Test.YtmlcjmgclfgbiaaAw2
import Derived.Test.YtmlcjmgclfgbiaaApp
namespace Go.Proofs.Ytmlcjmgclfgbiaa.rateFars
open Go.ChangeShapes Go.WideShapes Go.ChangeAt Go.RowKit
open Go.ChangeMaps (open_string shut_string)
set_option linter.unusedVariables false

open Fl
theorem infoF : (Try.prog.info? 23).map (fun i => (i.zero, i.size, i.bytes)) = some (some (.float .f64 0), 1, 8) := by kernel_rfl
def FarsRel (B len : Nat) (b : Nat → Nat) (w : World) (v3 v4 i : Value) (wr : World) : Prop :=
  ∃ k : Nat, k ≤ len ∧ i = .int .i64 k ∧ wr.ownsRow B 23 1 v3 k (fsL b k) ∧ wr.ownsRow B 23 1 v4 k (fsL b k) ∧ Apart v3.ownBlock v4.ownBlock ∧ Below B w wr ∧ B ≤ wr.heap.size
def AgainRel (len : Nat) (W : World) (i : Value) (wr : World) : Prop := ∃ k n : Nat, k ≤ len ∧ i = .int .i64 k ∧ wr = W.drewN n

theorem drewN_add (w : World) (n m : Nat) : (w.drewN n).drewN m = w.drewN (n + m) := by unfold World.drewN; simp [Nat.add_assoc]
set_option maxRecDepth 100000 in
set_option maxHeartbeats 2000000 in
theorem walk (a0 : Option Addr) (len0 cap0 : Nat) (z0 : List Int) (w : World) (w0 : IsRow .u64 w a0 len0 cap0 z0) :
    Calls Try.prog 4 #[.slice a0 len0 cap0] w fun e w' => e = .returned (.bool true) ∧ Below w.heap.size w w' := by
  obtain ⟨hl, hwz, hc⟩ := w0.at
  clear w0
  obtain ⟨b, hb⟩ : ∃ b : Nat → Nat, ∀ i, (zat z0 i).toNat = b i := ⟨fun i => (zat z0 i).toNat, fun i => rfl⟩
  have hb2 : ∀ i, i < len0 → b i < 18446744073709551616 := fun i hi => by have := bounds_u64 (hwz i hi); rw [← hb]; omega
  have Hc := Lib.hid hc
  have Hb := Lib.hid hb
  have Hb2 := Lib.hid hb2
  clear hc hwz hb hb2
  by_cases h40 : 40 < len0
  · go_enter Try.func4, Try.ntmps4
    go_wp2_with fail
    refine (awake2_any _).mono ?_
    rintro e w1 ⟨rfl, hg⟩
    go_wp2_with fail
    go_ret
    exact ⟨rfl, below_only (Below.refl _ _) (Nat.le_refl _) hg (by simp)⟩
  · have h40' : len0 ≤ 40 := by omega
    clear h40
    have Hs : Hid (FarsRel w.heap.size len0 b w (.slice none 0 0) (.slice none 0 0) (.int .i64 0) w) := ⟨0, by omega, rfl, World.ownsRow_nil _ _ _ _, World.ownsRow_nil _ _ _ _, .inl rfl, Below.refl _ _, Nat.le_refl _⟩
    go_enter Try.func4, Try.ntmps4
    go_wp2_with fail
    go_loopw [3, 4, 5] (fun v3 v4 i wr => FarsRel w.heap.size len0 b w v3 v4 i wr) (fun _ _ i _ => len0 - (intOf i).toNat)
    case atStart => exact Hs.out
    case round =>
      clear Hs
      obtain ⟨k, hk, rfl, ho3, ho4, hap, hbel, hsz⟩ := hrel
      have Ho3 := Lib.hid ho3
      have Ho4 := Lib.hid ho4
      have Hap := Lib.hid hap
      have Hbel := Lib.hid hbel
      clear ho3 ho4 hap hbel
      by_cases hlt : k < len0
      · obtain ⟨g, off, ha, hglt, hcell⟩ := Hc.out (by omega)
        subst ha
        have hc1 := row_below hcell Hbel.out hglt k hlt
        have Hcell := Lib.hid hcell
        clear hcell
        have hi0 : (0 : Int) ≤ (k : Int) := by omega
        have hi1 : (k : Int) < (len0 : Int) := by omega
        go_wp2_with fail
        refine (float_any _ _).mono ?_
        rintro e w1 ⟨rfl, rfl⟩
        rw [Hb.out]
        go_wp2_with (at_builtin; refine wpList_append1 rfl (.tmp 17) (.tmp 23) 33 rfl w.heap.size 23 (.float .f64 0) 8 Try.underlying33 infoF rfl _ k _ rfl wr Ho3.out _ rfl rfl rfl (by omega) (by omega) hsz ?_; intro v3' w1 hw3 hg3 hat3; rw [fsL_succ] at hw3; have Hw3 := Lib.hid hw3; have Hg3 := Lib.hid hg3; have Hat3 := Lib.hid hat3; clear hw3 hg3 hat3; have hc2 := row_below Hcell.out (Hbel.out.grown Hg3.out hsz (own_ge Ho3.out)) hglt k hlt)
        have Hw4 := Lib.hid (Ho4.out.kept Hg3.out Hap.out.ne)
        have Hbel1 := Lib.hid (Hbel.out.grown Hg3.out hsz (own_ge Ho3.out))
        have hsz1 : w.heap.size ≤ w1.heap.size := by have := Hg3.out.size; omega
        have Hap1 := Lib.hid (Hap.out.step (own_lt Ho4.out) Hat3.out)
        refine (float_any _ _).mono ?_
        rintro e w1' ⟨rfl, rfl⟩
        rw [Hb.out]
        go_wp2_with (at_builtin; refine wpList_append1 rfl (.tmp 25) (.tmp 31) 33 rfl w.heap.size 23 (.float .f64 0) 8 Try.underlying33 infoF rfl _ k _ rfl w1 Hw4.out _ rfl rfl rfl (by omega) (by omega) hsz1 ?_; intro v4' w2 hw4 hg4 hat4; rw [fsL_succ] at hw4; have hw3 := Hw3.out.kept hg4 Hap1.out.symm.ne; have HN : Hid (FarsRel w.heap.size len0 b w v3' v4' (.int .i64 ((k : Int) + 1)) w2) := ⟨k + 1, by omega, by go_num, hw3, hw4, (Hap1.out.symm.step (own_lt Hw3.out) hat4).symm, Hbel1.out.grown hg4 hsz1 (own_ge Hw4.out), by have := hg4.size; omega⟩; clear hw3 hw4 hg4 hat4 hc2)
        exact ⟨HN.out, by simp [intOf]; omega⟩
      · have : k = len0 := by omega
        subst this
        obtain ⟨wo, rfl⟩ : ∃ wo : World, wo = wr := ⟨_, rfl⟩
        obtain ⟨a3, c3, rfl, h3⟩ := own_fs Ho3.out Hb2.out (by omega)
        obtain ⟨a4, c4, rfl, h4⟩ := own_fs Ho4.out Hb2.out (by omega)
        have H3 := Lib.hid h3
        have H4 := Lib.hid h4
        clear h3 h4
        obtain ⟨v, hv⟩ : ∃ v, farF b k = v := ⟨_, rfl⟩
        have Hv := Lib.hid hv
        clear hv
        go_wp2_with fail
        refine (far_any _ _ _ _ _ H3.out).mono ?_
        rintro e w1 ⟨rfl, rfl⟩
        go_wp2_with fail
        refine (far2_any _ _ _ _ _ H3.out).mono ?_
        rintro e w1 ⟨r, n, rfl, rfl, hr, hal⟩
        go_wp2_with fail
        refine (alike_any _ _ _).mono ?_
        rw [hal]
        rintro e w1 ⟨rfl, rfl⟩
        clear hal
        have HS : Hid (AgainRel k wo (.int .i64 0) (wo.drewN n)) := ⟨0, n, by omega, rfl, rfl⟩
        go_wp2_with fail
        go_loopw [6] (fun i W => AgainRel k wo i W) (fun i _ => k - (intOf i).toNat)
        case atStart => exact HS.out
        case round =>
          clear HS
          obtain ⟨j, n1, hj, rfl, hW⟩ := hrel
          have HW := Lib.hid hW
          clear hW
          by_cases hlt2 : j < k
          · obtain ⟨g3, o3, ha3, hg3, hc3⟩ := H3.out.2.2 (by omega)
            obtain ⟨g4, o4, ha4, hg4, hc4⟩ := H4.out.2.2 (by omega)
            subst ha3
            subst ha4
            have c3j : wr.cell? ⟨g3, o3 + j, none⟩ = some (.float .f64 (b j)) := by rw [HW.out]; exact hc3 j hlt2
            have c4j : wr.cell? ⟨g4, o4 + j, none⟩ = some (.float .f64 (b j)) := by rw [HW.out]; exact hc4 j hlt2
            have hself := al_self (b j)
            clear hc3 hc4
            have hi0 : (0 : Int) ≤ (j : Int) := by omega
            have hi1 : (j : Int) < (k : Int) := by omega
            go_wp2_with fail
            go_quiet ((go_at_call 15; exact quiet_left (alike_any _ _ _)))
            have HN : ∀ m, Hid (AgainRel k wo (.int .i64 ((j : Int) + 1)) (wr.drewN m)) := fun m => ⟨j + 1, n1 + m, by omega, by go_num, by rw [HW.out]; exact drewN_add _ _ _⟩
            go_wp2_with fail
            exact ⟨(HN _).out, by simp [intOf]; omega⟩
          · go_wp2_with fail
            refine (awake2_any _).mono ?_
            rintro e w1 ⟨rfl, hg⟩
            go_wp2_with fail
            go_ret
            exact ⟨rfl, below_only (by rw [HW.out]; exact below_drewN Hbel.out _) (by rw [HW.out]; exact hsz) hg (by simp)⟩

theorem own : ownKnob Try.prog.godebug = none := by kernel_rfl
theorem laidOut : laidOutB Try.prog = true := by kernel_rfl

set_option maxRecDepth 100000 in
theorem lifted (os : Os) (started : os.Started) (H : Type) (enc : TypeId × Value → H) :
    ReturnsInHanded {} Try.checked os 4 .any (Rows.rateFarsSpec.pre6 enc Try.prog Try.f4 Rows.rateFarsRow.domain false) (Rows.rateFarsSpec.post enc Try.prog Try.f4 false true false false) := by
  refine returnsInHanded_of_change (C := Try.checked) own started (by kernel_rfl) Try.func4
    (ChangeSpec.witness6 (enc := enc) (C := Try.checked) false ⟨#[], #[.slice none 0 0], []⟩ 8 (by kernel_rfl) (by kernel_rfl) (by kernel_rfl) (by kernel_rfl)) ?_
  intro W base args ds gs before hval0 hW hcnd _
  have hval : ∀ (j : Nat) t v, Try.f4.params[j]? = some t → args[j]? = some v → Value.okWide Try.prog W .any base t v := hval0
  have hW' := hW
  obtain ⟨p, q, hA0, hV, rfl, hfz, hnd⟩ := hW
  have hA : DataW.TrodAll enc Try.prog W 0 (fun _ => true) true Try.f4.params.toList args.toList ds p := hA0
  rw [Try.params4] at hA hval
  obtain ⟨v0, vs0, d0, ds0, p0, q0, hargs, rfl, rfl, h0, r0⟩ := trodAll_cons hA
  obtain ⟨rfl, rfl, rfl⟩ := trodAll_nil r0
  obtain rfl : args = #[v0] := by cases args; simp_all
  obtain ⟨rfl, rfl⟩ := trodVars_none hV
  obtain ⟨a0, len0, cap0, rfl⟩ := okWide_slice Try.underlying32 (hval 0 32 v0 rfl rfl)
  have k0 := h0
  have lt0 : ∀ x ∈ p0, x.block < W.heap.size := by obtain ⟨m, hm⟩ := k0; exact DataW.trod_lt m _ _ _ hm
  obtain ⟨z0, w0⟩ : ∃ zs, IsRow .u64 W a0 len0 cap0 zs := by
    obtain ⟨fuel, hf⟩ := h0
    rcases open_ints Try.underlying32 Try.underlying22 (by kernel_rfl) hf with ⟨hcs, _⟩ | ⟨x, l, c, zs, hcs, _, hl, hm, hz, _, hcell, hwz⟩
    · simp [Value.cells] at hcs
      obtain ⟨rfl, rfl, rfl⟩ := hcs
      exact ⟨[], .inl ⟨rfl, rfl, rfl, rfl⟩⟩
    · simp [Value.cells] at hcs
      obtain ⟨rfl, rfl, rfl⟩ := hcs
      exact ⟨zs, .inr ⟨_, rfl, hl, hm, by simpa using hz, hcell, hwz⟩⟩
  clear hA0 hval0
  refine (walk a0 len0 cap0 z0 W w0).mono fun e W' ⟨he, bel⟩ => ?_
  subst he
  exact ⟨_, rfl, _, _, _, [], _, [], hW', trodAll_mk1 (shut_bool Try.underlying4 _), (trodAll_cons_mk (Below.trod laidOut (by kernel_rfl) (of_decide_eq_true (by kernel_rfl)) k0 bel lt0) trodAll_mk0), rfl, bel.frame _, fun h => by cases h⟩

theorem over : Rows.rateFarsRow.holds Try.pinned (OpenSpec.ofChange Rows.rateFarsSpec) :=
  OpenClaim.holds_of_wide 4 Try.f4 rfl rfl rfl rfl rfl rfl rfl ⟨rfl, rfl, rfl, rfl, rfl⟩ rfl rfl rfl rfl rfl (by kernel_rfl) Try.func4 (by kernel_rfl)
    (of_decide_eq_true (by kernel_rfl)) (by unfold Func.isWrapper; first | (rw [if_pos (by decide +kernel)]; kernel_rfl) | (rw [if_neg (by decide +kernel)]; exact ⟨rfl, rfl⟩))
    (fun os started H enc _ => lifted os started H enc)

/-- The statement. -/
theorem proved : Rows.RateFarsSaid := over
#print axioms proved
end Go.Proofs.Ytmlcjmgclfgbiaa.rateFars
