/- The contract of SameInts; the examples of package clock's laws hold. -/
import Derived.Test.YtmlcjmgclfgbiaaRows
import Derived.WalkKit
import Derived.WalkSpells
import Derived.WalkLawsBesides
import Derived.Handy
import Derived.Deep.QuietTactic
import Derived.BigQuiet
import Derived.Test.YtmlcjmgclfgbiaaMem
import Derived.Test.YtmlcjmgclfgbiaaFl
import Derived.Test.YtmlcjmgclfgbiaaFlRun
import Derived.Test.YtmlcjmgclfgbiaaClean
import Derived.Test.YtmlcjmgclfgbiaaMove
import Derived.Test.YtmlcjmgclfgbiaaCopy
import Derived.Test.YtmlcjmgclfgbiaaHand
import Derived.Test.YtmlcjmgclfgbiaaTwo
import Derived.Test.YtmlcjmgclfgbiaaClkA
import Derived.Test.YtmlcjmgclfgbiaaClk
import Derived.Test.YtmlcjmgclfgbiaaPassC
namespace Go.Proofs.Ytmlcjmgclfgbiaa
open Go.RowKit
set_option linter.unusedVariables false

open Fl
/-- A slice of ints, by a function. -/
def IsI (w : World) (a : Option Addr) (len : Nat) (f : Nat → Int) : Prop := len ≤ 1000000 ∧ (0 < len → ∃ b off, a = some ⟨b, off, none⟩ ∧ ∀ i, i < len → w.cell? ⟨b, off + i, none⟩ = some (.int .i64 (f i)))
theorem IsI.blk {w : World} {b n : Nat} {f : Nat → Int} (h : Blk w b 3 (intA f n)) (hn : n ≤ 1000000) : IsI w (some ⟨b, 0, none⟩) n f :=
  ⟨hn, fun _ => ⟨b, 0, rfl, fun i hi => by rw [Nat.zero_add, h.cell, intA_get, if_pos hi]⟩⟩
theorem IsI.nil (w : World) (f : Nat → Int) : IsI w none 0 f := ⟨by omega, fun h => by omega⟩
def SameRel (len : Nat) (W : World) (v : Value) (wr : World) : Prop := ∃ k n : Nat, k ≤ len ∧ v = .int .i64 k ∧ wr = W.drewN n
theorem drewN_add3 (w : World) (n m : Nat) : (w.drewN n).drewN m = w.drewN (n + m) := by unfold World.drewN; simp [Nat.add_assoc]
set_option maxHeartbeats 1000000 in
theorem same_any (a b : Option Addr) (len c1 c2 : Nat) (f : Nat → Int) (w : World) (ha : IsI w a len f) (hb : IsI w b len f) :
    Calls Try.prog 39 #[.slice a len c1, .slice b len c2] w fun e w' => e = .returned (.bool true) ∧ ∃ n, w' = w.drewN n := by
  have hl := ha.1
  have Ha := Lib.hid ha.2
  have Hb := Lib.hid hb.2
  clear ha hb
  have HS : Hid (SameRel len w (.int .i64 0) w) := ⟨0, 0, by omega, rfl, rfl⟩
  go_enter Try.func39, Try.ntmps39
  go_wp2_with fail
  go_loopw [5] (fun v wr => SameRel len w v wr) (fun v _ => len - (intOf v).toNat)
  case atStart => exact HS.out
  case round =>
    clear HS
    obtain ⟨k, n, hk, rfl, hW⟩ := hrel
    have HW := Lib.hid hW
    clear hW
    by_cases hlt : k < len
    · obtain ⟨g, off, rfl, hc⟩ := Ha.out (by omega)
      obtain ⟨g', off', rfl, hc'⟩ := Hb.out (by omega)
      have c1 : wr.cell? ⟨g, off + k, none⟩ = some (.int .i64 (f k)) := by rw [HW.out]; exact hc k hlt
      have c2 : wr.cell? ⟨g', off' + k, none⟩ = some (.int .i64 (f k)) := by rw [HW.out]; exact hc' k hlt
      clear hc hc'
      have hi0 : (0 : Int) ≤ (k : Int) := by omega
      have hi1 : (k : Int) < (len : Int) := by omega
      have HN : ∀ m, Hid (SameRel len w (.int .i64 ((k : Int) + 1)) (wr.drewN m)) := fun m => ⟨k + 1, n + m, by omega, by go_num, by rw [HW.out]; exact drewN_add3 _ _ _⟩
      go_wp2_with fail
      go_quiet (fail)
      go_wp2_with fail
      exact ⟨(HN _).out, by simp [intOf]; omega⟩
    · go_wp2_with fail
      go_ret
      exact ⟨rfl, n, HW.out⟩
theorem same_own (a b : Option Addr) (len c1 c2 : Nat) (f : Nat → Int) (w : World) (ha : IsI w a len f) (hb : IsI w b len f) :
    Calls Try.prog 39 #[.slice a len c1, .slice b len c2] w fun e w' => e = .returned (.bool true) ∧ w.grownBy w' none :=
  (same_any a b len c1 c2 f w ha hb).mono fun e w' ⟨he, n, hw⟩ => by subst hw; exact ⟨he, only_drewN (only_refl _ _) _⟩
/-- Rates of the example. -/
def exR : Nat → Nat := upd (fun _ => 4607182418800017408) 1 (cl 4611686018427387904)
theorem ex3_0 : mvI exR 5 0 = 5 := by decide +kernel
theorem ex3_1 : mvI exR 5 1 = 10 := by decide +kernel
theorem ex3_w : wF exR 5 0 2 = 1000 := by
  show max (max 0 (leastF 5 (mvI exR 5 0))) (leastF 5 (mvI exR 5 1)) = 1000
  rw [ex3_0, ex3_1]; decide
theorem ex3_r (i : Nat) : exR i < 18446744073709551616 := by
  unfold exR upd
  have := (cl_spec 4611686018427387904 (by omega)).1
  split
  · omega
  · show 4607182418800017408 < 18446744073709551616; omega
theorem row_ex (w : World) : IsI (w.alloc (.cells #[.int .i64 5, .int .i64 10] 3)) (some ⟨w.heap.size, 0, none⟩) 2 (mvI exR 5) := by
  refine ⟨by omega, fun _ => ⟨w.heap.size, 0, rfl, fun i hi => ?_⟩⟩
  rw [Nat.zero_add, (Blk.new w _ _).cell]
  have : i = 0 ∨ i = 1 := by omega
  rcases this with rfl | rfl
  · rw [ex3_0]; rfl
  · rw [ex3_1]; rfl
set_option maxRecDepth 100000 in
set_option maxHeartbeats 1000000 in
theorem awake3_any (w : World) : Calls Try.prog 34 #[] w fun e w' => e = .returned (.bool true) ∧ w.grownBy w' none := by
  go_enter Try.func34, Try.ntmps34
  go_wp2_with fail
  refine (new_any 2 _).mono ?_
  rw [show countF 2 = 2 by decide]
  rintro e w1 ⟨g, hb, rfl, hc, hg, hl1, hl2⟩
  have HC := Lib.hid hc
  have HG := Lib.hid hg
  clear hc hg
  go_wp2_with fail
  refine (set_yes HC.out (by omega) 1 4611686018427387904 (by omega)).mono ?_
  rintro e w2 ⟨rfl, hc2, hg2⟩
  have HC2 : Hid (ClockIs w2 g hb 2 (fun _ => 0) exR 0 0) := hc2
  have HG2 := Lib.hid (only_none (only_trans (only_but HG.out _) hg2) hl2)
  clear hc2 hg2
  go_wp2_with fail
  refine (pass_yes g hb 2 _ _ _ _ 5 _ HC2.out (by omega) (fun i hi => by omega) (fun i _ => ex3_r i) (by omega) (by omega) (by omega) (by omega)).mono ?_
  rintro e w3 ⟨rfl, hc3, hb3, ho3⟩
  rw [ex3_w] at hc3
  have HC3 := Lib.hid hc3
  have HB3 := Lib.hid hb3
  have HG3 : Hid (w.grownBy w3 none) := ⟨ho3.os.trans HG2.out.os, ho3.tape.trans HG2.out.tape, ho3.output.trans HG2.out.output, Nat.le_trans HG2.out.size ho3.size, fun i hi _ => (ho3.block i (Nat.lt_of_lt_of_le hi HG2.out.size) (by omega) (by omega)).trans (HG2.out.block i hi (by simp))⟩
  clear hc3 hb3 ho3
  go_wp2_with fail
  refine (same_any _ _ 2 2 2 (mvI exR 5) _ (IsI.blk (HB3.out.alloc _) (by omega)) (row_ex _)).mono ?_
  rintro e w4 ⟨rfl, n, rfl⟩
  have HC4 : Hid (ClockIs ((w3.alloc (.cells #[.int .i64 5, .int .i64 10] 3)).drewN n) g hb 2 (fun i => 0 + mvI exR 5 i) exR (0 + 5) 1000) := ⟨(HC3.out.1.alloc _).drewN n, (HC3.out.2.alloc _).drewN n⟩
  go_wp2_with fail
  refine (worst_any HC4.out).mono ?_
  rintro e w' ⟨rfl, rfl⟩
  go_wp2_with fail
  refine (ref_any HC4.out).mono ?_
  rintro e w' ⟨rfl, rfl⟩
  go_wp2_with fail
  refine (now_yes HC4.out (by omega) 1 (by omega)).mono ?_
  rw [show (0 : Int) + mvI exR 5 1 = 10 by rw [ex3_1]; rfl]
  rintro e w' ⟨rfl, rfl⟩
  go_wp2_with fail
  go_ret
  exact ⟨rfl, only_drewN (only_alloc HG3.out _) _⟩
end Go.Proofs.Ytmlcjmgclfgbiaa
