/- The contracts of gauge.sum, gauge.Mean, and of the document's none, end, sum, Mean. -/
import Derived.Test.YtpjefioopbnolaaRows
import Derived.WalkKit
import Derived.WalkSpells
import Derived.WalkLawsBesides
import Derived.Handy
import Derived.Test.YtpjefioopbnolaaMem
import Derived.Test.YtpjefioopbnolaaFl
import Derived.Test.YtpjefioopbnolaaFlRun
import Derived.Test.YtpjefioopbnolaaGauV
namespace Go.Proofs.Ytpjefioopbnolaa
open Go.RowKit
set_option linter.unusedVariables false

open Fl
def SumRel (b : Nat → Nat) (len : Nat) (W : World) (f i : Value) (wr : World) : Prop :=
  ∃ (k r n : Nat), k ≤ len ∧ i = .int .i64 k ∧ f = .float .f64 r ∧ Fits (SV (fun j => av (b j)) k) r ∧ wr = W.drewN n
theorem fits_op {o : Option Nat} {W : World} {x y q : Nat} (op : BinOp) (h : floatBits op .f64 x y = some q) (ho : floatBits op .f64 x y = o) : Fits o q := by
  rw [h] at ho; subst ho; exact ⟨bits_lt h, rfl⟩
theorem fits_nan {o : Option Nat} (W : World) {x y : Nat} {op : BinOp} (h : floatBits op .f64 x y = none) (ho : floatBits op .f64 x y = o) : Fits o (nanOf W x y) := by
  rw [h] at ho; subst ho; exact ⟨(nanOf_is W x y).2, (nanOf_is W x y).1⟩
theorem drew_N (W : World) (n : Nat) : (W.drewN n).drew = W.drewN (n + 1) := by unfold World.drewN World.drew; simp [Nat.add_assoc]
theorem SV_one (v : Nat → Option Nat) : SV v 1 = v 0 := rfl
theorem SV_succ (v : Nat → Option Nat) {k : Nat} (h : 0 < k) : SV v (k + 1) = opV .add (SV v k) (v k) := by
  show (if k = 0 then v 0 else opV .add (SV v k) (v k)) = _
  rw [if_neg (by omega)]
set_option maxHeartbeats 1000000 in
theorem sum_any (a : Option Addr) (len cap : Nat) (b : Nat → Nat) (w : World) (h : IsFs w a len b) :
    Calls Try.prog 27 #[.slice a len cap] w fun e w' => ∃ r n, e = .returned (.float .f64 r) ∧ w' = w.drewN n ∧ Fits (SV (fun j => av (b j)) len) r := by
  obtain ⟨hl, hb, hc⟩ := h
  have Hc := Lib.hid hc
  have Hb := Lib.hid hb
  clear hc hb
  have HS : Hid (SumRel b len w (.float .f64 0) (.int .i64 0) w) := ⟨0, 0, 0, by omega, rfl, rfl, ⟨by omega, rfl⟩, rfl⟩
  go_enter Try.func27, Try.ntmps27
  go_wp2_with fail
  go_loopw [3, 8] (fun f i wr => SumRel b len w f i wr) (fun _ i _ => len - (intOf i).toNat)
  case atStart => exact HS.out
  case round =>
    clear HS
    obtain ⟨k, r, n, hk, rfl, rfl, hf, hW⟩ := hrel
    have HF := Lib.hid hf
    have HW := Lib.hid hW
    clear hf hW
    by_cases hlt : k < len
    · obtain ⟨g, off, rfl, hglt, hcell⟩ := Hc.out (by omega)
      have hck : wr.cell? ⟨g, off + k, none⟩ = some (.float .f64 (b k)) := by rw [HW.out]; exact hcell k hlt
      have hbk := Hb.out k hlt
      have hi0 : (0 : Int) ≤ (k : Int) := by omega
      have hi1 : (k : Int) < (len : Int) := by omega
      clear hcell
      by_cases h0 : k = 0
      · subst h0
        rw [Nat.add_zero] at hck
        have HN : Hid (SumRel b len w (.float .f64 (b 0)) (.int .i64 1) wr) := ⟨1, b 0, n, by omega, rfl, rfl, fits_av hbk, HW.out⟩
        go_wp2_with fail
        exact ⟨HN.out, by simp [intOf]; omega⟩
      · have hk0 : ((k : Int) == 0) = false := by rw [beq_eq_false_iff_ne]; omega
        have ho := op_fits (op := .add) (.inl rfl) HF.out (fits_av hbk)
        rw [← SV_succ (fun j => av (b j)) (by omega : 0 < k)] at ho
        have HO := Lib.hid ho
        clear ho
        generalize b k = x at *
        rcases hq : floatBits .add .f64 r x with _ | q
        · have e1 : ∀ W : World, (binOp .add 28 (.float .f64 r) (.float .f64 x)).run Try.prog W = .ok (.float .f64 (nanOf W r x)) W.drew := fun W => run_nan W .add 28 _ _ (by simp) hq
          have HN : Hid (SumRel b len w (.float .f64 (nanOf wr r x)) (.int .i64 ((k : Int) + 1)) wr.drew) := ⟨k + 1, _, n + 1, by omega, by go_num, rfl, fits_nan _ hq HO.out, by rw [HW.out]; exact drew_N _ _⟩
          clear hq
          go_wp2_with fail
          exact ⟨HN.out, by simp [intOf]; omega⟩
        · have e1 : ∀ W : World, (binOp .add 28 (.float .f64 r) (.float .f64 x)).run Try.prog W = .ok (.float .f64 q) W := fun W => run_float_arith W .add 28 .f64 _ _ _ hq
          have HN : Hid (SumRel b len w (.float .f64 q) (.int .i64 ((k : Int) + 1)) wr) := ⟨k + 1, _, n, by omega, by go_num, rfl, fits_op (W := wr) _ hq HO.out, HW.out⟩
          clear hq
          go_wp2_with fail
          exact ⟨HN.out, by simp [intOf]; omega⟩
    · have : k = len := by omega
      subst this
      go_wp2_with fail
      go_ret
      exact ⟨_, _, rfl, HW.out, HF.out⟩
def MeanPost (b : Nat → Nat) (len : Nat) (w : World) (e : Ending) (w' : World) : Prop := ∃ r n, e = .returned (.float .f64 r) ∧ w' = w.drewN n ∧ Fits (opV .quo (SV (fun j => av (b j)) len) (some (floatOfInt .f64 (len : Int)))) r
set_option maxHeartbeats 1000000 in
theorem mean_any (a : Option Addr) (len cap : Nat) (b : Nat → Nat) (w : World) (h : IsFs w a len b) :
    Calls Try.prog 11 #[.slice a len cap] w (MeanPost b len w) := by
  have cs := sum_any a len cap b w h
  have Hcs := Lib.hid cs
  clear cs h
  go_enter Try.func11, Try.ntmps11
  go_wp2_with fail
  refine Hcs.out.mono ?_
  rintro e w1 ⟨r, n, rfl, rfl, hf⟩
  have ho := op_fits (op := .quo) (p := some (floatOfInt .f64 (len : Int))) (y := floatOfInt .f64 (len : Int)) (by simp) hf ⟨by rw [ofInt_eq]; unfold word; have := RU_le_inf ((len : Int).natAbs * U) 0; have hi : inf = 9218868437227405312 := rfl; split <;> omega, rfl⟩
  have HO := Lib.hid ho
  clear ho hf
  rcases hq : floatBits .quo .f64 r (floatOfInt .f64 (len : Int)) with _ | q
  · have e1 : ∀ W : World, (binOp .quo 28 (.float .f64 r) (.float .f64 (floatOfInt .f64 (len : Int)))).run Try.prog W = .ok (.float .f64 (nanOf W r (floatOfInt .f64 (len : Int)))) W.drew := fun W => run_nan W .quo 28 _ _ (by simp) hq
    have hf := fits_nan (w.drewN n) hq HO.out
    have HF := Lib.hid hf
    clear hq hf
    go_wp2_with fail
    go_ret
    exact ⟨_, n + 1, rfl, drew_N _ _, HF.out⟩
  · have e1 : ∀ W : World, (binOp .quo 28 (.float .f64 r) (.float .f64 (floatOfInt .f64 (len : Int)))).run Try.prog W = .ok (.float .f64 q) W := fun W => run_float_arith W .quo 28 .f64 _ _ _ hq
    have hf := fits_op (W := w) _ hq HO.out
    have HF := Lib.hid hf
    clear hq hf
    go_wp2_with fail
    go_ret
    exact ⟨_, n, rfl, rfl, HF.out⟩
theorem quo_00 : floatBits .quo .f64 0 0 = none := by decide +kernel
theorem quo_10 : floatBits .quo .f64 4607182418800017408 0 = some 9218868437227405312 := by decide +kernel
theorem none_any (w : World) : Calls Try.prog 28 #[] w fun e w' => ∃ r n, e = .returned (.float .f64 r) ∧ w' = w.drewN n ∧ Fits none r := by
  have e1 : ∀ W : World, (binOp .quo 28 (.float .f64 0) (.float .f64 0)).run Try.prog W = .ok (.float .f64 (nanOf W 0 0)) W.drew := fun W => run_nan W .quo 28 _ _ (by simp) quo_00
  go_enter Try.func28, Try.ntmps28
  go_wp2_with fail
  go_ret
  exact ⟨_, 1, rfl, rfl, Fits.none (nanOf_is _ _ _).1 (nanOf_is _ _ _).2⟩
theorem end_any (w : World) : Calls Try.prog 31 #[] w fun e w' => e = .returned (.float .f64 9218868437227405312) ∧ w = w' := by
  have e1 : ∀ W : World, (binOp .quo 28 (.float .f64 4607182418800017408) (.float .f64 0)).run Try.prog W = .ok (.float .f64 9218868437227405312) W := fun W => run_float_arith W .quo 28 .f64 _ _ _ quo_10
  go_enter Try.func31, Try.ntmps31
  go_wp2_with fail
  go_ret
  exact ⟨rfl, rfl⟩
def RSumRel (b : Nat → Nat) (len : Nat) (W : World) (f i : Value) (wr : World) : Prop :=
  ∃ (k r n : Nat), 1 ≤ k ∧ k ≤ len ∧ i = .int .i64 k ∧ f = .float .f64 r ∧ Fits (SV (fun j => av (b j)) k) r ∧ wr = W.drewN n
set_option maxHeartbeats 1000000 in
theorem rsum_any (a : Option Addr) (len cap : Nat) (b : Nat → Nat) (w : World) (h : IsFs w a len b) (h1 : 0 < len) :
    Calls Try.prog 29 #[.slice a len cap] w fun e w' => ∃ r n, e = .returned (.float .f64 r) ∧ w' = w.drewN n ∧ Fits (SV (fun j => av (b j)) len) r := by
  obtain ⟨hl, hb, hc⟩ := h
  obtain ⟨g, off, rfl, hglt, hcell⟩ := hc h1
  have hc0 := hcell 0 h1
  rw [Nat.add_zero] at hc0
  have Hc := Lib.hid hcell
  have Hb := Lib.hid hb
  have HS : Hid (RSumRel b len w (.float .f64 (b 0)) (.int .i64 1) w) := ⟨1, b 0, 0, by omega, by omega, rfl, rfl, fits_av (hb 0 h1), rfl⟩
  have hl0 : (0 : Int) < (len : Int) := by omega
  clear hc hb hcell
  go_enter Try.func29, Try.ntmps29
  go_wp2_with fail
  go_loopw [3, 4] (fun f i wr => RSumRel b len w f i wr) (fun _ i _ => len - (intOf i).toNat)
  case atStart => exact HS.out
  case round =>
    clear HS
    obtain ⟨k, r, n, hk1, hk, rfl, rfl, hf, hW⟩ := hrel
    have HF := Lib.hid hf
    have HW := Lib.hid hW
    clear hf hW
    by_cases hlt : k < len
    · have hck : wr.cell? ⟨g, off + k, none⟩ = some (.float .f64 (b k)) := by rw [HW.out]; exact Hc.out k hlt
      have hbk := Hb.out k hlt
      have hi0 : (0 : Int) ≤ (k : Int) := by omega
      have hi1 : (k : Int) < (len : Int) := by omega
      have ho := op_fits (op := .add) (.inl rfl) HF.out (fits_av hbk)
      rw [← SV_succ (fun j => av (b j)) (by omega : 0 < k)] at ho
      have HO := Lib.hid ho
      clear ho
      generalize b k = x at *
      rcases hq : floatBits .add .f64 r x with _ | q
      · have e1 : ∀ W : World, (binOp .add 28 (.float .f64 r) (.float .f64 x)).run Try.prog W = .ok (.float .f64 (nanOf W r x)) W.drew := fun W => run_nan W .add 28 _ _ (by simp) hq
        have HN : Hid (RSumRel b len w (.float .f64 (nanOf wr r x)) (.int .i64 ((k : Int) + 1)) wr.drew) := ⟨k + 1, _, n + 1, by omega, by omega, by go_num, rfl, fits_nan _ hq HO.out, by rw [HW.out]; exact drew_N _ _⟩
        clear hq
        go_wp2_with fail
        exact ⟨HN.out, by simp [intOf]; omega⟩
      · have e1 : ∀ W : World, (binOp .add 28 (.float .f64 r) (.float .f64 x)).run Try.prog W = .ok (.float .f64 q) W := fun W => run_float_arith W .add 28 .f64 _ _ _ hq
        have HN : Hid (RSumRel b len w (.float .f64 q) (.int .i64 ((k : Int) + 1)) wr) := ⟨k + 1, _, n, by omega, by omega, by go_num, rfl, fits_op (W := wr) _ hq HO.out, HW.out⟩
        clear hq
        go_wp2_with fail
        exact ⟨HN.out, by simp [intOf]; omega⟩
    · have : k = len := by omega
      subst this
      go_wp2_with fail
      go_ret
      exact ⟨_, _, rfl, HW.out, HF.out⟩
theorem ofInt_zero : floatOfInt .f64 0 = 0 := by decide +kernel
set_option maxHeartbeats 1000000 in
theorem rmean_any (a : Option Addr) (len cap : Nat) (b : Nat → Nat) (w : World) (h : IsFs w a len b) :
    Calls Try.prog 12 #[.slice a len cap] w (MeanPost b len w) := by
  by_cases h0 : len = 0
  · subst h0
    have Hn : Hid (opV .quo (SV (fun j => av (b j)) 0) (some (floatOfInt .f64 ((0 : Nat) : Int))) = none) := by
      show floatBits .quo .f64 0 (floatOfInt .f64 0) = none
      rw [ofInt_zero]; exact quo_00
    clear h
    go_enter Try.func12, Try.ntmps12
    go_wp2_with fail
    refine (none_any _).mono ?_
    rintro e w1 ⟨r, n, rfl, rfl, hf⟩
    have HF := Lib.hid hf
    clear hf
    go_wp2_with fail
    go_ret
    exact ⟨_, n, rfl, rfl, by rw [Hn.out]; exact HF.out⟩
  · have Hcs := Lib.hid (rsum_any a len cap b w h (by omega))
    have hl1 : ((len : Int) == 0) = false := by rw [beq_eq_false_iff_ne]; omega
    clear h h0
    go_enter Try.func12, Try.ntmps12
    go_wp2_with fail
    refine Hcs.out.mono ?_
    rintro e w1 ⟨r, n, rfl, rfl, hf⟩
    have ho := op_fits (op := .quo) (p := some (floatOfInt .f64 (len : Int))) (y := floatOfInt .f64 (len : Int)) (by simp) hf ⟨by rw [ofInt_eq]; unfold word; have := RU_le_inf ((len : Int).natAbs * U) 0; have hi : inf = 9218868437227405312 := rfl; split <;> omega, rfl⟩
    have HO := Lib.hid ho
    clear ho hf
    rcases hq : floatBits .quo .f64 r (floatOfInt .f64 (len : Int)) with _ | q
    · have e1 : ∀ W : World, (binOp .quo 28 (.float .f64 r) (.float .f64 (floatOfInt .f64 (len : Int)))).run Try.prog W = .ok (.float .f64 (nanOf W r (floatOfInt .f64 (len : Int)))) W.drew := fun W => run_nan W .quo 28 _ _ (by simp) hq
      have hf := fits_nan (w.drewN n) hq HO.out
      have HF := Lib.hid hf
      clear hq hf
      go_wp2_with fail
      go_ret
      exact ⟨_, n + 1, rfl, drew_N _ _, HF.out⟩
    · have e1 : ∀ W : World, (binOp .quo 28 (.float .f64 r) (.float .f64 (floatOfInt .f64 (len : Int)))).run Try.prog W = .ok (.float .f64 q) W := fun W => run_float_arith W .quo 28 .f64 _ _ _ hq
      have hf := fits_op (W := w) _ hq HO.out
      have HF := Lib.hid hf
      clear hq hf
      go_wp2_with fail
      go_ret
      exact ⟨_, n, rfl, rfl, HF.out⟩
end Go.Proofs.Ytpjefioopbnolaa
