/- The examples of package gauge's laws hold; what floats makes. -/
import Derived.Test.YtpjefioopbnolaaRows
import Derived.WalkKit
import Derived.WalkSpells
import Derived.WalkLawsBesides
import Derived.Handy
import Derived.Test.YtpjefioopbnolaaMem
import Derived.Test.YtpjefioopbnolaaFl
import Derived.Test.YtpjefioopbnolaaFlRun
import Derived.Test.YtpjefioopbnolaaApp
import Derived.Test.YtpjefioopbnolaaGauV
import Derived.Test.YtpjefioopbnolaaMaxG
import Derived.Test.YtpjefioopbnolaaBits2
import Derived.Test.YtpjefioopbnolaaInf
import Derived.Test.YtpjefioopbnolaaGauS
import Derived.Test.YtpjefioopbnolaaGrade
import Derived.Test.YtpjefioopbnolaaMost
import Derived.Test.YtpjefioopbnolaaFair
namespace Go.Proofs.Ytpjefioopbnolaa
open Go.RowKit
set_option linter.unusedVariables false

open Fl
theorem float_any (n : Int) (w : World) :
    Calls Try.prog 18 #[.int .u64 n] w fun e w' => e = .returned (.float .f64 n.toNat) ∧ w = w' := by
  have h1 := frombits_eq n
  go_enter Try.func18, Try.ntmps18
  go_wp2
  go_ret
  exact ⟨rfl, rfl⟩
def r2 (x y : Nat) : Nat → Nat := fun i => if i = 0 then x else y
def r3 (x y z : Nat) : Nat → Nat := fun i => if i = 0 then x else if i = 1 then y else z
theorem row2 (w : World) (x y : Nat) (hx : x < 18446744073709551616) (hy : y < 18446744073709551616) : IsFs (w.alloc (.cells #[.float .f64 x, .float .f64 y] 28)) (some ⟨w.heap.size, 0, none⟩) 2 (r2 x y) := by
  refine ⟨by omega, fun i hi => ?_, fun _ => ⟨w.heap.size, 0, rfl, (Blk.new w _ _).lt, fun i hi => ?_⟩⟩
  · unfold r2; split <;> omega
  · rw [Nat.zero_add, (Blk.new w _ _).cell]
    have : i = 0 ∨ i = 1 := by omega
    rcases this with rfl | rfl <;> rfl
theorem row3 (w : World) (x y z : Nat) (hx : x < 18446744073709551616) (hy : y < 18446744073709551616) (hz : z < 18446744073709551616) : IsFs (w.alloc (.cells #[.float .f64 x, .float .f64 y, .float .f64 z] 28)) (some ⟨w.heap.size, 0, none⟩) 3 (r3 x y z) := by
  refine ⟨by omega, fun i hi => ?_, fun _ => ⟨w.heap.size, 0, rfl, (Blk.new w _ _).lt, fun i hi => ?_⟩⟩
  · unfold r3; split <;> (try split) <;> omega
  · rw [Nat.zero_add, (Blk.new w _ _).cell]
    have : i = 0 ∨ i = 1 ∨ i = 2 := by omega
    rcases this with rfl | rfl | rfl <;> rfl
theorem row1 (w : World) (x : Nat) (hx : x < 18446744073709551616) : IsFs (w.alloc (.cells #[.float .f64 x] 28)) (some ⟨w.heap.size, 0, none⟩) 1 (fun _ => x) := by
  refine ⟨by omega, fun i hi => hx, fun _ => ⟨w.heap.size, 0, rfl, (Blk.new w _ _).lt, fun i hi => ?_⟩⟩
  rw [Nat.zero_add, (Blk.new w _ _).cell]
  have : i = 0 := by omega
  subst this; rfl
theorem ex_f1 : fairV (fun j => av (r2 4607182418800017408 4607182418800017408 j)) 2 = some 4607182418800017408 := by decide +kernel
theorem ex_f2 : fairV (fun j => av (r2 4607182418800017408 0 j)) 2 = some 4602678819172646912 := by decide +kernel
theorem ex_g1 : gradeF 9223372036854775808 = 1 := by decide
theorem ex_g2 : gradeF 0 = 2 := by decide
theorem ex_m : opV .quo (SV (fun j => av (r2 4607182418800017408 4611686018427387904 j)) 2) (some (floatOfInt .f64 ((2 : Nat) : Int))) = some 4609434218613702656 := by decide +kernel
theorem ex_x : mostV (r3 4607182418800017408 4613937818241073152 4611686018427387904) 3 = some 4613937818241073152 := by decide +kernel
theorem fits_some {q r : Nat} (h : Fits (some q) r) : r = q := h.2
theorem eq_1 : (FloatKind.f64.format.order 4607182418800017408 4607182418800017408 == some .eq) = true := by decide +kernel
theorem eq_2 : (FloatKind.f64.format.order 4602678819172646912 4602678819172646912 == some .eq) = true := by decide +kernel
theorem eq_3 : (FloatKind.f64.format.order 4609434218613702656 4609434218613702656 == some .eq) = true := by decide +kernel
theorem eq_4 : (FloatKind.f64.format.order 4613937818241073152 4613937818241073152 == some .eq) = true := by decide +kernel
theorem fair_is (a : Option Addr) (len cap : Nat) (b : Nat → Nat) (w : World) (h : IsFs w a len b) (q : Nat) (hq : fairV (fun j => av (b j)) len = some q) :
    Calls Try.prog 15 #[.slice a len cap] w fun e w' => e = .returned (.float .f64 q) ∧ w.grownBy w' none :=
  (fair_any a len cap b w h).mono fun e w' ⟨r, n, he, hw, hf⟩ => by
    rw [hq] at hf
    rw [he, hw, fits_some hf]
    exact ⟨rfl, only_drewN (only_refl _ _) _⟩
theorem mean_is (a : Option Addr) (len cap : Nat) (b : Nat → Nat) (w : World) (h : IsFs w a len b) (q : Nat) (hq : opV .quo (SV (fun j => av (b j)) len) (some (floatOfInt .f64 (len : Int))) = some q) :
    Calls Try.prog 11 #[.slice a len cap] w fun e w' => e = .returned (.float .f64 q) ∧ w.grownBy w' none :=
  (mean_any a len cap b w h).mono fun e w' ⟨r, n, he, hw, hf⟩ => by
    rw [hq] at hf
    rw [he, hw, fits_some hf]
    exact ⟨rfl, only_drewN (only_refl _ _) _⟩
theorem most_is (a : Option Addr) (len cap : Nat) (b : Nat → Nat) (w : World) (h : IsFs w a len b) (q : Nat) (hq : mostV b len = some q) :
    Calls Try.prog 13 #[.slice a len cap] w fun e w' => e = .returned (.float .f64 q) ∧ w = w' :=
  (most_any a len cap b w h).mono fun e w' ⟨r, he, hw, hf⟩ => by
    rw [hq] at hf
    rw [he, fits_some hf]
    exact ⟨rfl, hw⟩
set_option maxRecDepth 100000 in
set_option maxHeartbeats 1000000 in
theorem awake30_any (w : World) : Calls Try.prog 8 #[] w fun e w' => e = .returned (.bool true) ∧ w.grownBy w' none := by
  have x1 := eq_1
  have x2 := eq_2
  have x3 := eq_3
  have x4 := eq_4
  go_enter Try.func8, Try.ntmps8
  go_wp2_with fail
  refine (fair_is (some ⟨w.heap.size, 0, none⟩) 2 2 (r2 4607182418800017408 4607182418800017408) _ (row2 w 4607182418800017408 4607182418800017408 (by omega) (by omega)) _ ex_f1).mono ?_
  rintro e w1 ⟨rfl, hg1⟩
  have HG1 := Lib.hid (only_trans (World.grownBy_alloc w _ _) hg1)
  clear hg1
  go_wp2_with fail
  refine (fair_is (some ⟨w1.heap.size, 0, none⟩) 2 2 (r2 4607182418800017408 0) _ (row2 w1 4607182418800017408 0 (by omega) (by omega)) _ ex_f2).mono ?_
  rintro e w2 ⟨rfl, hg2⟩
  have HG2 := Lib.hid (only_trans HG1.out (only_trans (World.grownBy_alloc w1 _ _) hg2))
  clear hg2
  go_wp2_with fail
  refine (copysign_c _).mono ?_
  rintro e w' ⟨rfl, rfl⟩
  go_wp2_with fail
  refine (grade_any 9223372036854775808 (by omega) _).mono ?_
  rw [ex_g1]
  rintro e w' ⟨rfl, rfl⟩
  go_wp2_with fail
  refine (grade_any 0 (by omega) _).mono ?_
  rw [ex_g2]
  rintro e w' ⟨rfl, rfl⟩
  go_wp2_with fail
  refine (mean_is (some ⟨w2.heap.size, 0, none⟩) 2 2 (r2 4607182418800017408 4611686018427387904) _ (row2 w2 4607182418800017408 4611686018427387904 (by omega) (by omega)) _ ex_m).mono ?_
  rintro e w3 ⟨rfl, hg3⟩
  have HG3 := Lib.hid (only_trans HG2.out (only_trans (World.grownBy_alloc w2 _ _) hg3))
  clear hg3
  go_wp2_with fail
  refine (most_is (some ⟨w3.heap.size, 0, none⟩) 3 3 (r3 4607182418800017408 4613937818241073152 4611686018427387904) _ (row3 w3 4607182418800017408 4613937818241073152 4611686018427387904 (by omega) (by omega) (by omega)) _ ex_x).mono ?_
  rintro e w' ⟨rfl, rfl⟩
  go_wp2_with fail
  go_ret
  exact ⟨rfl, only_trans HG3.out (World.grownBy_alloc _ _ _)⟩
end Go.Proofs.Ytpjefioopbnolaa
