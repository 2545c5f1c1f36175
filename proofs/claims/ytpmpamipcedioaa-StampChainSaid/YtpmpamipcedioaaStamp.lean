/- The contracts of package stamp and of its reference: New makes one block of three numbers, At tells what atF says and writes what was told. -/
import Derived.Test.YtpmpamipcedioaaRows
import Derived.WalkKit
import Derived.WalkSpells
import Derived.WalkLawsBesides
import Derived.Handy
import Derived.Deep.QuietTactic
import Derived.BigQuiet
import Derived.StillTailTactics
import Derived.Lib.Hide
import Derived.Deep.RegionWith
import Derived.Test.YtpmpamipcedioaaMem
namespace Go.Proofs.Ytpmpamipcedioaa
open Go.RowKit
set_option linter.unusedVariables false

def nearF (n : Int) : Int := if n < 0 then 0 else if 2305843009213693952 < n then 2305843009213693952 else n
theorem nearF_bd (n : Int) : 0 ≤ nearF n ∧ nearF n ≤ 2305843009213693952 := by unfold nearF; split <;> (try split) <;> omega

set_option maxHeartbeats 400000 in
theorem cut_any (n : Int) (w : World) :
    Calls Try.prog 26 #[.int .i64 n] w fun e w' => e = .returned (.int .i64 (nearF n)) ∧ w = w' := by
  by_cases h : n < 0
  · have e : nearF n = 0 := by unfold nearF; rw [if_pos h]
    rw [e]
    go_enter Try.func26, Try.ntmps26
    go_wp2
    go_ret
    exact ⟨rfl, rfl⟩
  · have e : nearF n = if 2305843009213693952 < n then 2305843009213693952 else n := by unfold nearF; rw [if_neg h]
    have h' : 0 ≤ n := by omega
    rw [e]
    clear h e
    go_enter Try.func26, Try.ntmps26
    go_wp2
    all_goals (go_ret; exact ⟨rfl, rfl⟩)

set_option maxHeartbeats 400000 in
theorem near_any (n : Int) (w : World) :
    Calls Try.prog 27 #[.int .i64 n] w fun e w' => e = .returned (.int .i64 (nearF n)) ∧ w = w' := by
  by_cases h : n < 0
  · have e : nearF n = 0 := by unfold nearF; rw [if_pos h]
    rw [e]
    go_enter Try.func27, Try.ntmps27
    go_wp2
    go_ret
    exact ⟨rfl, rfl⟩
  · have e : nearF n = if 2305843009213693952 < n then 2305843009213693952 else n := by unfold nearF; rw [if_neg h]
    have h' : 0 ≤ n := by omega
    rw [e]
    clear h e
    go_enter Try.func27, Try.ntmps27
    go_wp2
    all_goals (go_ret; exact ⟨rfl, rfl⟩)

set_option maxHeartbeats 400000 in
theorem new_any (b n : Int) (w : World) :
    Calls Try.prog 12 #[.int .i64 b, .int .i64 n] w fun e w' => e = .returned (.pointer (some ⟨w.heap.size, 0, none⟩)) ∧ w' = w.alloc (.cells #[.int .i64 (nearF b), .int .i64 (nearF n), .int .i64 0] 51 (0, 0)) := by
  go_enter Try.func12, Try.ntmps12
  go_wp2_with (go_at_call 26; refine (cut_any _ _).mono ?_; rintro e w' ⟨rfl, rfl⟩)
  go_ret
  exact ⟨rfl, rfl⟩

set_option maxHeartbeats 400000 in
theorem rnew_any (b n : Int) (w : World) :
    Calls Try.prog 13 #[.int .i64 b, .int .i64 n] w fun e w' => e = .returned (.pointer (some ⟨w.heap.size, 0, none⟩)) ∧ w' = w.alloc (.cells #[.int .i64 (nearF b), .int .i64 (nearF n), .int .i64 (nearF b)] 30 (0, 0)) := by
  go_enter Try.func13, Try.ntmps13
  go_wp2_with (go_at_call 27; refine (near_any _ _).mono ?_; rintro e w' ⟨rfl, rfl⟩)
  go_ret
  exact ⟨rfl, rfl⟩

/-- What is told at a clock's number, behind an earlier telling. -/
def onF (f n : Int) : Int := if nearF n - f < 0 then 0 else nearF n - f
def atF (b f t n : Int) : Int :=
  if t < (if 2305843009213693952 < b + onF f n then 2305843009213693952 else b + onF f n) then (if 2305843009213693952 < b + onF f n then 2305843009213693952 else b + onF f n) else t

theorem at_close {w : World} {g k : Nat} {x y : Int} (h : x = y) : Ending.returned (.int .i64 x) = .returned (.int .i64 y) ∧ ∃ m, (w.drewN k).setCell ⟨g, 2, none⟩ (.int .i64 x) = (w.drewN m).setCell ⟨g, 2, none⟩ (.int .i64 y) := by
  subst h; exact ⟨rfl, _, rfl⟩

theorem at_close1 {w : World} {g : Nat} {x y : Int} (h : x = y) : Ending.returned (.int .i64 x) = .returned (.int .i64 y) ∧ ∃ m, w.drew.setCell ⟨g, 2, none⟩ (.int .i64 x) = (w.drewN m).setCell ⟨g, 2, none⟩ (.int .i64 y) := by
  subst h; exact ⟨rfl, 1, rfl⟩
theorem at_close2 {w : World} {g : Nat} {x y : Int} (h : x = y) : Ending.returned (.int .i64 x) = .returned (.int .i64 y) ∧ ∃ m, (w.setCell ⟨g, 2, none⟩ (.int .i64 x)).drew = (w.drewN m).setCell ⟨g, 2, none⟩ (.int .i64 y) := by
  subst h; exact ⟨rfl, 1, rfl⟩
set_option maxHeartbeats 400000 in
theorem at_any (g : Nat) (b f t n : Int) (w : World) (h : w.heap[g]? = some (.cells #[.int .i64 b, .int .i64 f, .int .i64 t] 51 (0, 0))) (hb : 0 ≤ b ∧ b ≤ 2305843009213693952) (hf : 0 ≤ f ∧ f ≤ 2305843009213693952) :
    Calls Try.prog 15 #[.pointer (some ⟨g, 0, none⟩), .int .i64 n] w fun e w' => e = .returned (.int .i64 (atF b f t n)) ∧ ∃ m, w' = (w.drewN m).setCell ⟨g, 2, none⟩ (.int .i64 (atF b f t n)) := by
  have c0 : w.cell? ⟨g, 0, none⟩ = some (.int .i64 b) := by simp [World.cell?, h]
  have c1 : w.cell? ⟨g, 1, none⟩ = some (.int .i64 f) := by simp [World.cell?, h]
  have c2 : w.cell? ⟨g, 2, none⟩ = some (.int .i64 t) := by simp [World.cell?, h]
  have f2 : w.frozen? ⟨g, 2, none⟩ = false := by simp [World.frozen?, h]
  have nb := nearF_bd n
  clear h
  go_enter Try.func15, Try.ntmps15
  go_wp2_with fail
  go_quiet ((go_at_call 26; exact quiet_left (cut_any _ _)))
  all_goals go_wp2_with fail
  all_goals go_region
  all_goals go_wp2_with fail
  all_goals go_ret
  all_goals exact at_close (by unfold atF onF; omega)

set_option maxHeartbeats 400000 in
theorem rat_any (g : Nat) (b f t n : Int) (w : World) (h : w.heap[g]? = some (.cells #[.int .i64 b, .int .i64 f, .int .i64 t] 30 (0, 0))) (hb : 0 ≤ b ∧ b ≤ 2305843009213693952) (hf : 0 ≤ f ∧ f ≤ 2305843009213693952) :
    Calls Try.prog 16 #[.pointer (some ⟨g, 0, none⟩), .int .i64 n] w fun e w' => e = .returned (.int .i64 (atF b f t n)) ∧ ∃ m, w' = (w.drewN m).setCell ⟨g, 2, none⟩ (.int .i64 (atF b f t n)) := by
  have c0 : w.cell? ⟨g, 0, none⟩ = some (.int .i64 b) := by simp [World.cell?, h]
  have c1 : w.cell? ⟨g, 1, none⟩ = some (.int .i64 f) := by simp [World.cell?, h]
  have c2 : w.cell? ⟨g, 2, none⟩ = some (.int .i64 t) := by simp [World.cell?, h]
  have f2 : w.frozen? ⟨g, 2, none⟩ = false := by simp [World.frozen?, h]
  have nb := nearF_bd n
  clear h
  go_enter Try.func16, Try.ntmps16
  go_wp2_with fail
  refine wp_region_still_tail 22 (by kernel_rfl) (by kernel_rfl) ?_
  simp only [List.take_succ_cons, List.take_zero, List.drop_succ_cons, List.drop_zero]
  repeat (first | still_step | still_call (Calls.same (near_any _ _)))
  refine wpStill_nil ?_
  change wpList _ _ _ _ _ w.drew
  all_goals go_wp2_with fail
  all_goals go_ret
  all_goals first | exact at_close1 (by unfold atF onF; omega) | (go_show; sorry)

set_option maxHeartbeats 400000 in
theorem at_nil (n : Int) (w : World) : Calls Try.prog 15 #[.pointer none, .int .i64 n] w fun e w' => e = .returned (.int .i64 0) ∧ w = w' := by
  go_enter Try.func15, Try.ntmps15
  go_wp2_with fail
  go_ret
  exact ⟨rfl, rfl⟩
set_option maxHeartbeats 400000 in
theorem base_nil (w : World) : Calls Try.prog 14 #[.pointer none] w fun e w' => e = .returned (.int .i64 0) ∧ w = w' := by
  go_enter Try.func14, Try.ntmps14
  go_wp2_with fail
  go_ret
  exact ⟨rfl, rfl⟩
set_option maxHeartbeats 400000 in
theorem base_any (g : Nat) (b f t : Int) (w : World) (h : w.heap[g]? = some (.cells #[.int .i64 b, .int .i64 f, .int .i64 t] 51 (0, 0))) :
    Calls Try.prog 14 #[.pointer (some ⟨g, 0, none⟩)] w fun e w' => e = .returned (.int .i64 b) ∧ w = w' := by
  have c0 : w.cell? ⟨g, 0, none⟩ = some (.int .i64 b) := by simp [World.cell?, h]
  clear h
  go_enter Try.func14, Try.ntmps14
  go_wp2_with fail
  go_ret
  exact ⟨rfl, rfl⟩

/-- A stamp in memory: its base, since when, what was told. -/
theorem new_own (b n : Int) (w : World) :
    Calls Try.prog 12 #[.int .i64 b, .int .i64 n] w fun e w' => e = .returned (.pointer (some ⟨w.heap.size, 0, none⟩)) ∧ Blk w' w.heap.size 51 #[.int .i64 (nearF b), .int .i64 (nearF n), .int .i64 0] ∧ w.grownBy w' none ∧ w.heap.size < w'.heap.size :=
  (new_any b n w).mono fun e w' ⟨he, hw⟩ => by subst hw; exact ⟨he, Blk.new _ _ _, World.grownBy_alloc _ _ _, by simp⟩
theorem rnew_own (b n : Int) (w : World) :
    Calls Try.prog 13 #[.int .i64 b, .int .i64 n] w fun e w' => e = .returned (.pointer (some ⟨w.heap.size, 0, none⟩)) ∧ Blk w' w.heap.size 30 #[.int .i64 (nearF b), .int .i64 (nearF n), .int .i64 (nearF b)] ∧ w.grownBy w' none ∧ w.heap.size < w'.heap.size :=
  (rnew_any b n w).mono fun e w' ⟨he, hw⟩ => by subst hw; exact ⟨he, Blk.new _ _ _, World.grownBy_alloc _ _ _, by simp⟩
theorem at_own (g : Nat) (b f t n : Int) (w : World) (h : Blk w g 51 #[.int .i64 b, .int .i64 f, .int .i64 t]) (hb : 0 ≤ b ∧ b ≤ 2305843009213693952) (hf : 0 ≤ f ∧ f ≤ 2305843009213693952) :
    Calls Try.prog 15 #[.pointer (some ⟨g, 0, none⟩), .int .i64 n] w fun e w' => e = .returned (.int .i64 (atF b f t n)) ∧ Blk w' g 51 #[.int .i64 b, .int .i64 f, .int .i64 (atF b f t n)] ∧ w.grownBy w' (some g) :=
  (at_any g b f t n w h hb hf).mono fun e w' ⟨he, m, hw⟩ => by
    subst hw
    exact ⟨he, (h.drewN m).set 2 _, only_setCell (only_drewN (only_refl w _) m) (.inl rfl) _⟩
theorem rat_own (g : Nat) (b f t n : Int) (w : World) (h : Blk w g 30 #[.int .i64 b, .int .i64 f, .int .i64 t]) (hb : 0 ≤ b ∧ b ≤ 2305843009213693952) (hf : 0 ≤ f ∧ f ≤ 2305843009213693952) :
    Calls Try.prog 16 #[.pointer (some ⟨g, 0, none⟩), .int .i64 n] w fun e w' => e = .returned (.int .i64 (atF b f t n)) ∧ Blk w' g 30 #[.int .i64 b, .int .i64 f, .int .i64 (atF b f t n)] ∧ w.grownBy w' (some g) :=
  (rat_any g b f t n w h hb hf).mono fun e w' ⟨he, m, hw⟩ => by
    subst hw
    exact ⟨he, (h.drewN m).set 2 _, only_setCell (only_drewN (only_refl w _) m) (.inl rfl) _⟩
theorem base_own (g : Nat) (b f t : Int) (w : World) (h : Blk w g 51 #[.int .i64 b, .int .i64 f, .int .i64 t]) :
    Calls Try.prog 14 #[.pointer (some ⟨g, 0, none⟩)] w fun e w' => e = .returned (.int .i64 b) ∧ w = w' := base_any g b f t w h

theorem near_100 : nearF 100 = 100 := by decide
theorem near_7 : nearF 7 = 7 := by decide
theorem at_ex1 : atF 100 7 0 10 = 103 := by decide
theorem at_ex2 : atF 100 7 103 8 = 103 := by decide

set_option maxHeartbeats 400000 in
theorem awake20_any (w : World) : Calls Try.prog 11 #[] w fun e w' => e = .returned (.bool true) ∧ w.grownBy w' none := by
  go_enter Try.func11, Try.ntmps11
  go_wp2_with fail
  refine (new_own 100 7 w).mono ?_
  rintro e w1 ⟨rfl, hb1, hg1, _⟩
  rw [near_100, near_7] at hb1
  go_wp2_with fail
  refine (at_own _ 100 7 0 10 _ hb1 (by omega) (by omega)).mono ?_
  rintro e w2 ⟨rfl, hb2, hg2⟩
  rw [at_ex1] at hb2
  have x1 := at_ex1
  go_wp2_with fail
  refine (at_own _ 100 7 103 8 _ hb2 (by omega) (by omega)).mono ?_
  rintro e w3 ⟨rfl, hb3, hg3⟩
  have x2 := at_ex2
  go_wp2_with fail
  refine (base_own _ 100 7 _ _ hb3).mono ?_
  rintro e w4 ⟨rfl, rfl⟩
  go_wp2_with fail
  go_ret
  exact ⟨rfl, only_none (only_trans (only_trans (only_but hg1 _) hg2) hg3) (Nat.le_refl _)⟩
end Go.Proofs.Ytpmpamipcedioaa
