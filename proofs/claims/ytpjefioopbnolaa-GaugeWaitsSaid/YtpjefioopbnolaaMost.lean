/- The contracts of gauge.Most and of the document's Most. -/
import Derived.Test.YtpjefioopbnolaaRows
import Derived.WalkKit
import Derived.WalkSpells
import Derived.WalkLawsBesides
import Derived.Handy
import Derived.Deep.QuietTactic
import Derived.BigQuiet
import Derived.Test.YtpjefioopbnolaaMem
import Derived.Test.YtpjefioopbnolaaFl
import Derived.Test.YtpjefioopbnolaaFlRun
import Derived.Test.YtpjefioopbnolaaGauV
import Derived.Test.YtpjefioopbnolaaMaxG
import Derived.Test.YtpjefioopbnolaaBits2
import Derived.Test.YtpjefioopbnolaaGauS
namespace Go.Proofs.Ytpjefioopbnolaa
open Go.RowKit
set_option linter.unusedVariables false

open Fl
/-- The greatest of the first k. -/
def mostR (b : Nat → Nat) : Nat → Nat
  | 0 => 18442240474082181120
  | k + 1 => mostS (mostR b k) (b k)
/-- No number where one is none. -/
def mostV (b : Nat → Nat) (len : Nat) : Option Nat := if anyN b len then none else some (mostR b len)
theorem mostR_ok {b : Nat → Nat} {k : Nat} (h : anyN b k = false) (hb : ∀ i, i < k → b i < 18446744073709551616) : isN (mostR b k) = false ∧ mostR b k < 18446744073709551616 := by
  induction k with
  | zero => exact ⟨show isN 18442240474082181120 = false by decide, show 18442240474082181120 < 18446744073709551616 by omega⟩
  | succ k ih =>
    rw [anyN, Bool.or_eq_false_iff] at h
    have := ih h.1 (fun i hi => hb i (by omega))
    unfold mostR mostS
    split
    · exact ⟨h.2, hb k (by omega)⟩
    · exact this
def MostRel (b : Nat → Nat) (len : Nat) (f i : Value) : Prop := ∃ k : Nat, k ≤ len ∧ i = .int .i64 k ∧ f = .float .f64 (mostR b k) ∧ anyN b k = false
set_option maxHeartbeats 1000000 in
theorem most_any (a : Option Addr) (len cap : Nat) (b : Nat → Nat) (w : World) (h : IsFs w a len b) :
    Calls Try.prog 13 #[.slice a len cap] w fun e w' => ∃ r, e = .returned (.float .f64 r) ∧ w = w' ∧ Fits (mostV b len) r := by
  obtain ⟨hl, hb, hc⟩ := h
  have Hc := Lib.hid hc
  have Hb := Lib.hid hb
  clear hc hb
  have HS : Hid (MostRel b len (.float .f64 (mostR b 0)) (.int .i64 0)) := ⟨0, by omega, rfl, rfl, rfl⟩
  have e0 : word (decide ((-1 : Int) < 0)) inf = mostR b 0 := rfl
  have E0 := Lib.hid e0
  clear e0
  go_enter Try.func13, Try.ntmps13
  go_wp2_with fail
  refine (minf_any _ _).mono ?_
  rw [E0.out]
  rintro e w1 ⟨rfl, rfl⟩
  go_wp2_with fail
  go_loop [3, 9] (fun f i => MostRel b len f i) (fun _ i => len - (intOf i).toNat)
  case atStart => exact HS.out
  case round =>
    clear HS
    obtain ⟨k, hk, rfl, rfl, hN⟩ := hrel
    have HN := Lib.hid hN
    clear hN
    by_cases hlt : k < len
    · obtain ⟨g, off, rfl, hglt, hcell⟩ := Hc.out (by omega)
      have hck := hcell k hlt
      have hbk := Hb.out k hlt
      have hok := mostR_ok HN.out (fun i hi => Hb.out i (by omega))
      have hi0 : (0 : Int) ≤ (k : Int) := by omega
      have hi1 : (k : Int) < (len : Int) := by omega
      have hs : mostR b (k + 1) = mostS (mostR b k) (b k) := rfl
      have hnx : anyN b (k + 1) = (anyN b k || isN (b k)) := rfl
      rw [HN.out, Bool.false_or] at hnx
      have hnan : isN (b k) = true → Fits (mostV b len) 9221120237041090561 := fun h => by
        unfold mostV; rw [anyN_true hlt h]; exact ⟨by omega, show isN 9221120237041090561 = true by decide⟩
      have HF := Lib.hid hnan
      have HS := Lib.hid hs
      have HX := Lib.hid hnx
      clear hcell hs hnx hnan
      generalize hx : b k = x at *
      generalize hm : mostR b k = m at *
      clear hx hm
      have a1 := (cmp_ne x x).trans (by rw [feq_self, Bool.not_not])
      rcases hn : isN x with _ | _
      · rw [hn] at a1
        have hM : Hid (maxD m x = mostS m x) := maxD_eq hok.2 hbk hok.1 hn
        have HN2 : Hid (MostRel b len (.float .f64 (mostS m x)) (.int .i64 ((k : Int) + 1))) := ⟨k + 1, by omega, by go_num, by rw [HS.out], by rw [HX.out]; exact hn⟩
        have hok' := Lib.hid hok
        clear hn hok
        go_wp2_with fail
        refine (max_gen _ _ _).mono ?_
        rw [hM.out]
        rintro e w1 ⟨rfl, rfl⟩
        go_wp2_with fail
        exact ⟨HN2.out, by simp [intOf]; omega⟩
      · rw [hn] at a1
        have HF2 := Lib.hid (HF.out hn)
        have hok' := Lib.hid hok
        clear hn hok HF
        go_wp2_with fail
        refine (max_gen _ _ _).mono ?_
        rintro e w1 ⟨rfl, rfl⟩
        go_wp2_with fail
        refine (mnan_any _).mono ?_
        rintro e w1 ⟨rfl, rfl⟩
        go_wp2_with fail
        go_ret
        exact ⟨_, rfl, rfl, HF2.out⟩
    · have : k = len := by omega
      subst this
      have hF : Fits (mostV b k) (mostR b k) := by
        unfold mostV; rw [HN.out]
        exact ⟨(mostR_ok HN.out Hb.out).2, rfl⟩
      have HF := Lib.hid hF
      clear hF
      go_wp2_with fail
      go_ret
      exact ⟨_, rfl, rfl, HF.out⟩
def RMostRel (b : Nat → Nat) (len : Nat) (W : World) (f i : Value) (wr : World) : Prop := ∃ k n : Nat, k ≤ len ∧ i = .int .i64 k ∧ f = .float .f64 (mostR b k) ∧ anyN b k = false ∧ wr = W.drewN n
theorem drewN_addM (w : World) (n m : Nat) : (w.drewN n).drewN m = w.drewN (n + m) := by unfold World.drewN; simp [Nat.add_assoc]
theorem mostS_cases (m x : Nat) (nm : isN m = false) (nx : isN x = false) :
    ∃ t1 t2 t3 t4 : Bool, flt m x = t1 ∧ feq x 0 = t2 ∧ feq m 0 = t3 ∧ sg x = t4 ∧ ((t1 = true ∧ mostS m x = x) ∨ (t1 = false ∧ t2 = false ∧ mostS m x = m) ∨ (t1 = false ∧ t2 = true ∧ t3 = false ∧ mostS m x = m) ∨ (t1 = false ∧ t2 = true ∧ t3 = true ∧ t4 = true ∧ mostS m x = m) ∨ (t1 = false ∧ t2 = true ∧ t3 = true ∧ t4 = false ∧ mostS m x = x)) := by
  refine ⟨_, _, _, _, rfl, rfl, rfl, rfl, ?_⟩
  unfold mostS
  rw [feq_zero nx, feq_zero nm]
  cases flt m x <;> cases decide (rg x = 0) <;> cases decide (rg m = 0) <;> cases sg x <;> simp
set_option maxHeartbeats 2000000 in
theorem rmost_any (a : Option Addr) (len cap : Nat) (b : Nat → Nat) (w : World) (h : IsFs w a len b) :
    Calls Try.prog 14 #[.slice a len cap] w fun e w' => ∃ r n, e = .returned (.float .f64 r) ∧ w' = w.drewN n ∧ Fits (mostV b len) r := by
  obtain ⟨hl, hb, hc⟩ := h
  have Hc := Lib.hid hc
  have Hb := Lib.hid hb
  clear hc hb
  have HS : Hid (RMostRel b len w (.float .f64 18442240474082181120) (.int .i64 0) w) := ⟨0, 0, by omega, rfl, rfl, rfl, rfl⟩
  have e2 : ∀ W : World, (Op.unary .neg (.float .f64 9218868437227405312)).run Try.prog W = .ok (.float .f64 18442240474082181120) W := fun W => run_flip (P := Try.prog) W 9218868437227405312 (by omega)
  go_enter Try.func14, Try.ntmps14
  go_wp2_with fail
  refine (end_any _).mono ?_
  rintro e w1 ⟨rfl, rfl⟩
  go_wp2_with fail
  go_loopw [3, 4] (fun f i wr => RMostRel b len w f i wr) (fun _ i _ => len - (intOf i).toNat)
  case atStart => exact HS.out
  case round =>
    clear HS e2
    obtain ⟨k, n, hk, rfl, rfl, hN, hW⟩ := hrel
    have HN := Lib.hid hN
    have HW := Lib.hid hW
    clear hN hW
    by_cases hlt : k < len
    · obtain ⟨g, off, rfl, hglt, hcell⟩ := Hc.out (by omega)
      have hck : wr.cell? ⟨g, off + k, none⟩ = some (.float .f64 (b k)) := by rw [HW.out]; exact hcell k hlt
      have hbk := Hb.out k hlt
      have hok := mostR_ok HN.out (fun i hi => Hb.out i (by omega))
      have hi0 : (0 : Int) ≤ (k : Int) := by omega
      have hi1 : (k : Int) < (len : Int) := by omega
      have hs : mostR b (k + 1) = mostS (mostR b k) (b k) := rfl
      have hnx : anyN b (k + 1) = (anyN b k || isN (b k)) := rfl
      rw [HN.out, Bool.false_or] at hnx
      have hnan : isN (b k) = true → Fits (mostV b len) (b k) := fun h => by
        unfold mostV; rw [anyN_true hlt h]; exact ⟨hbk, h⟩
      have HF := Lib.hid hnan
      have HS := Lib.hid hs
      have HX := Lib.hid hnx
      clear hcell hs hnx hnan
      generalize hx : b k = x at *
      generalize hm : mostR b k = m at *
      clear hx hm
      have a1 := (cmp_ne x x).trans (by rw [feq_self, Bool.not_not])
      rcases hn : isN x with _ | _
      · rw [hn] at a1
        obtain ⟨t1, t2, t3, t4, f1, f2, f3, f4, hcase⟩ := mostS_cases m x hok.1 hn
        have b1 := (cmp_gt x m).trans f1
        have b2 := (cmp_eq x 0).trans f2
        have b3 := (cmp_eq m 0).trans f3
        have HN2 : ∀ q, Hid (RMostRel b len w (.float .f64 (mostS m x)) (.int .i64 ((k : Int) + 1)) (wr.drewN q)) := fun q => ⟨k + 1, n + q, by omega, by go_num, by rw [HS.out], by rw [HX.out]; exact hn, by rw [HW.out]; exact drewN_addM _ _ _⟩
        have hz : t2 = true → floatBits .quo .f64 4607182418800017408 x = some (word t4 inf) := fun h => by
          rw [h] at f2; rw [← f4]
          exact inv_zero (by rw [feq_zero hn] at f2; simpa using f2)
        have w1 : (FloatKind.f64.format.order (word true inf) 0 == some .gt) = false := by decide
        have w2 : (FloatKind.f64.format.order (word false inf) 0 == some .gt) = true := by decide
        have hok' := Lib.hid hok
        have Hn := Lib.hid hn
        clear hn hok f1 f2 f3 f4
        rcases hcase with ⟨rfl, hv⟩ | ⟨rfl, rfl, hv⟩ | ⟨rfl, rfl, rfl, hv⟩ | ⟨rfl, rfl, rfl, rfl, hv⟩ | ⟨rfl, rfl, rfl, rfl, hv⟩
        all_goals rw [hv] at HN2
        all_goals clear hv HS HX HF
        all_goals try (
          have hq := hz rfl
          have e1 : ∀ W : World, (binOp .quo 28 (.float .f64 4607182418800017408) (.float .f64 x)).run Try.prog W = .ok (.float .f64 _) W := fun W => run_float_arith W .quo 28 .f64 _ _ _ hq
          clear hq)
        all_goals (
          clear hz
          go_wp2_with fail
          go_quiet (fail)
          go_wp2_with fail
          exact ⟨(HN2 _).out, by simp [intOf]; omega⟩)
      · rw [hn] at a1
        have HF2 := Lib.hid (HF.out hn)
        have hok' := Lib.hid hok
        clear hn hok HF
        go_wp2_with fail
        go_quiet (fail)
        go_wp2_with fail
        go_ret
        exact ⟨_, n + nq, rfl, by rw [HW.out]; exact drewN_addM _ _ _, HF2.out⟩
    · have : k = len := by omega
      subst this
      have hF : Fits (mostV b k) (mostR b k) := by
        unfold mostV; rw [HN.out]
        exact ⟨(mostR_ok HN.out Hb.out).2, rfl⟩
      have HF := Lib.hid hF
      clear hF
      go_wp2_with fail
      go_ret
      exact ⟨_, n, rfl, HW.out, HF.out⟩
end Go.Proofs.Ytpjefioopbnolaa
