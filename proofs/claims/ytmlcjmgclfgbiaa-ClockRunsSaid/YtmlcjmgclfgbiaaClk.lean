/- The contracts of package clock: New, Len, Ref, Worst, Now, Set. -/
import Derived.Test.YtmlcjmgclfgbiaaRows
import Derived.WalkKit
import Derived.WalkSpells
import Derived.WalkLawsBesides
import Derived.Handy
import Derived.Outline
import Derived.RegionTactic
import Derived.StillTailTactics
import Derived.Test.YtmlcjmgclfgbiaaMem
import Derived.Test.YtmlcjmgclfgbiaaFl
import Derived.Test.YtmlcjmgclfgbiaaFlRun
import Derived.Test.YtmlcjmgclfgbiaaClean
import Derived.Test.YtmlcjmgclfgbiaaMove
import Derived.Test.YtmlcjmgclfgbiaaCopy
import Derived.Test.YtmlcjmgclfgbiaaHand
import Derived.Test.YtmlcjmgclfgbiaaTwo
import Derived.Test.YtmlcjmgclfgbiaaClkA
namespace Go.Proofs.Ytmlcjmgclfgbiaa
open Go.RowKit
set_option linter.unusedVariables false

open Fl
/-- Clocks in memory: what each shows, its rate, what passed, the worst. -/
def ClockIs (w : World) (g hb n : Nat) (nw : Nat → Int) (r : Nat → Nat) (ref worst : Int) : Prop :=
  Blk w g 78 #[.slice (some ⟨hb, 0, none⟩) n n, .int .i64 ref, .int .i64 worst] ∧ Blk w hb 76 (handA nw r n)
theorem ClockIs.ne {w : World} {g hb n : Nat} {nw : Nat → Int} {r : Nat → Nat} {ref worst : Int} (h : ClockIs w g hb n nw r ref worst) : g ≠ hb := h.1.ne h.2 (by decide)
theorem ClockIs.kept {w w' : World} {g hb n p q : Nat} {nw : Nat → Int} {r : Nat → Nat} {ref worst : Int} (h : ClockIs w g hb n nw r ref worst) (k : Only2 w w' p q) (h1 : g ≠ p) (h2 : g ≠ q) (h3 : hb ≠ p) (h4 : hb ≠ q) : ClockIs w' g hb n nw r ref worst :=
  ⟨h.1.kept2 k h1 h2, h.2.kept2 k h3 h4⟩
/-- How many clocks there are. -/
def countF (n : Int) : Nat := (min (max n 0) 15).toNat
theorem countF_le (n : Int) : countF n ≤ 15 := by unfold countF; omega
theorem countF_id {n : Nat} (h : n ≤ 15) : countF n = n := by unfold countF; omega
set_option maxHeartbeats 1000000 in
theorem new_any (n : Int) (w : World) :
    Calls Try.prog 35 #[.int .i64 n] w fun e w' => ∃ g hb, e = .returned (.pointer (some ⟨g, 0, none⟩)) ∧ ClockIs w' g hb (countF n) (fun _ => 0) (fun _ => 4607182418800017408) 0 0 ∧ w.grownBy w' none ∧ w.heap.size ≤ g ∧ w.heap.size ≤ hb := by
  have hc := countF_le n
  obtain ⟨a, ha⟩ : ∃ a, (if n < 0 then 0 else n) = a := ⟨_, rfl⟩
  obtain ⟨b, hb⟩ : ∃ b, (if 15 < a then 15 else a) = b := ⟨_, rfl⟩
  have hbc : b = (countF n : Int) := by unfold countF; omega
  obtain ⟨c, hcc⟩ : ∃ c, countF n = c := ⟨_, rfl⟩
  rw [hcc] at hbc hc ⊢
  subst hbc
  clear hcc
  have Hb1 := Lib.hid (Blk.new w 76 #[.int .i64 0, .float .f64 4607182418800017408])
  go_enter Try.func35, Try.ntmps35
  go_wp2_with fail
  refine (repeat_any _ c hc _ Hb1.out).mono ?_
  rintro e w1 ⟨rfl, hb1, hg1⟩
  have hs1 := hg1.size
  have H1 := Lib.hid hb1
  have HG := Lib.hid hg1
  have hs2 : w.heap.size + 1 ≤ w1.heap.size := by simpa using hs1
  clear hb1 hg1 hs1
  go_wp2_with fail
  go_ret
  refine ⟨_, _, rfl, ⟨Blk.new _ _ _, by simpa using H1.out.alloc _⟩, only_alloc (only_trans (World.grownBy_alloc _ _ _) HG.out) _, by omega, by simp⟩

section
variable {g hb n : Nat} {nw : Nat → Int} {r : Nat → Nat} {ref worst : Int} {w : World} (h : ClockIs w g hb n nw r ref worst)
include h
theorem len_any (hn : n ≤ 15) : Calls Try.prog 46 #[.pointer (some ⟨g, 0, none⟩)] w fun e w' => e = .returned (.int .i64 n) ∧ w = w' := by
  have c0 : w.cell? ⟨g, 0, none⟩ = some (.slice (some ⟨hb, 0, none⟩) n n) := h.1.cell 0
  clear h
  go_enter Try.func46, Try.ntmps46
  go_wp2_with fail
  go_ret
  exact ⟨rfl, rfl⟩
theorem ref_any : Calls Try.prog 42 #[.pointer (some ⟨g, 0, none⟩)] w fun e w' => e = .returned (.int .i64 ref) ∧ w = w' := by
  have c0 : w.cell? ⟨g, 1, none⟩ = some (.int .i64 ref) := h.1.cell 1
  clear h
  go_enter Try.func42, Try.ntmps42
  go_wp2_with fail
  go_ret
  exact ⟨rfl, rfl⟩
theorem worst_any : Calls Try.prog 43 #[.pointer (some ⟨g, 0, none⟩)] w fun e w' => e = .returned (.int .i64 worst) ∧ w = w' := by
  have c0 : w.cell? ⟨g, 2, none⟩ = some (.int .i64 worst) := h.1.cell 2
  clear h
  go_enter Try.func43, Try.ntmps43
  go_wp2_with fail
  go_ret
  exact ⟨rfl, rfl⟩
set_option maxHeartbeats 1000000 in
theorem now_yes (hn : n ≤ 15) (i : Nat) (hi : i < n) : Calls Try.prog 44 #[.pointer (some ⟨g, 0, none⟩), .int .i64 i] w fun e w' => e = .returned (.int .i64 (nw i)) ∧ w = w' := by
  have c0 : w.cell? ⟨g, 0, none⟩ = some (.slice (some ⟨hb, 0, none⟩) n n) := h.1.cell 0
  have c1 : w.cell? ⟨hb, i * 2, none⟩ = some (.int .i64 (nw i)) := (h.2.cell (i * 2)).trans (handA_get0 nw r hi)
  have cl := len_any h hn
  have hi0 : (0 : Int) ≤ (i : Int) := by omega
  have hi1 : (i : Int) < (n : Int) := by omega
  clear h
  go_enter Try.func44, Try.ntmps44
  go_wp2_with fail
  refine cl.mono ?_
  rintro e w' ⟨rfl, rfl⟩
  go_wp2_with fail
  go_ret
  exact ⟨rfl, rfl⟩
set_option maxHeartbeats 1000000 in
theorem now_no (hn : n ≤ 15) (i : Int) (hi : i < 0 ∨ (n : Int) ≤ i) : Calls Try.prog 44 #[.pointer (some ⟨g, 0, none⟩), .int .i64 i] w fun e w' => e = .returned (.int .i64 0) ∧ w = w' := by
  have cl := len_any h hn
  clear h
  by_cases h0 : i < 0
  · clear hi
    go_enter Try.func44, Try.ntmps44
    go_wp2_with fail
    go_ret
    exact ⟨rfl, rfl⟩
  · have h1 : (n : Int) ≤ i := by omega
    have h2 : 0 ≤ i := by omega
    clear hi h0
    go_enter Try.func44, Try.ntmps44
    go_wp2_with fail
    refine cl.mono ?_
    rintro e w' ⟨rfl, rfl⟩
    go_wp2_with fail
    go_ret
    exact ⟨rfl, rfl⟩
set_option maxHeartbeats 1000000 in
theorem set_no (hn : n ≤ 15) (i : Int) (x : Nat) (hi : i < 0 ∨ (n : Int) ≤ i) : Calls Try.prog 40 #[.pointer (some ⟨g, 0, none⟩), .int .i64 i, .float .f64 x] w fun e w' => e = .returned (.int .i64 6) ∧ w = w' := by
  have cl := len_any h hn
  clear h
  by_cases h0 : i < 0
  · clear hi
    go_enter Try.func40, Try.ntmps40
    go_wp2_with fail
    go_ret
    exact ⟨rfl, rfl⟩
  · have h1 : (n : Int) ≤ i := by omega
    have h2 : 0 ≤ i := by omega
    clear hi h0
    go_enter Try.func40, Try.ntmps40
    go_wp2_with fail
    refine cl.mono ?_
    rintro e w' ⟨rfl, rfl⟩
    go_wp2_with fail
    go_ret
    exact ⟨rfl, rfl⟩
set_option maxHeartbeats 1000000 in
theorem set_yes (hn : n ≤ 15) (i : Nat) (x : Nat) (hi : i < n) : Calls Try.prog 40 #[.pointer (some ⟨g, 0, none⟩), .int .i64 i, .float .f64 x] w fun e w' => e = .returned (.int .i64 0) ∧ ClockIs w' g hb n nw (upd r i (cl x)) ref worst ∧ w.grownBy w' (some hb) := by
  have c0 : w.cell? ⟨g, 0, none⟩ = some (.slice (some ⟨hb, 0, none⟩) n n) := h.1.cell 0
  have c1 : w.cell? ⟨hb, i * 2 + 1, none⟩ = some (.float .f64 (r i)) := (h.2.cell (i * 2 + 1)).trans (handA_get1 nw r hi)
  have f1 : w.frozen? ⟨hb, i * 2 + 1, none⟩ = false := h.2.free _
  have cl := len_any h hn
  have hi0 : (0 : Int) ≤ (i : Int) := by omega
  have hi1 : (i : Int) < (n : Int) := by omega
  have H := Lib.hid h
  have hst := run_store_float Try.prog
  clear h
  go_enter Try.func40, Try.ntmps40
  go_wp2_with fail
  refine cl.mono ?_
  rintro e w' ⟨rfl, rfl⟩
  go_wp2_with fail
  refine wp_region_still_tail 9 (by kernel_rfl) (by kernel_rfl) ?_
  simp only [List.take_succ_cons, List.take_zero, List.drop_succ_cons, List.drop_zero]
  repeat (first | still_step | still_call (Calls.same (clean_any _ _)))
  refine wpStill_nil ?_
  change wpList _ _ _ _ _ w.drew
  go_wp2_with fail
  go_ret
  exact ⟨rfl, ⟨H.out.1.kept (only_setCell (only_drew (only_refl _ _)) (.inl rfl) _) (by intro e; injection e with e; exact H.out.ne e), by rw [← handA_set1]; exact (H.out.2.drew).set _ _⟩, only_setCell (only_drew (only_refl _ _)) (.inl rfl) _⟩
end
end Go.Proofs.Ytmlcjmgclfgbiaa
