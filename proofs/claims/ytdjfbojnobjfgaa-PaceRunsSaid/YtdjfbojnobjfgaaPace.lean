/- The contracts of package pace and of its reference. -/
import Derived.Test.YtdjfbojnobjfgaaRows
import Derived.WalkKit
import Derived.WalkSpells
import Derived.WalkLawsBesides
import Derived.Handy
import Derived.Deep.QuietTactic
import Derived.BigQuiet
import Derived.StillTailTactics
import Derived.Deep.RegionWith
import Derived.Test.YtdjfbojnobjfgaaMem
import Derived.Test.YtdjfbojnobjfgaaView
namespace Go.Proofs.Ytdjfbojnobjfgaa
open Go.RowKit
set_option linter.unusedVariables false

def nearF (n : Int) : Int := if n < 0 then 0 else if 2305843009213693952 < n then 2305843009213693952 else n
theorem nearF_bd (n : Int) : 0 ≤ nearF n ∧ nearF n ≤ 2305843009213693952 := by unfold nearF; split <;> (try split) <;> omega
set_option maxHeartbeats 400000 in
theorem cut_any (n : Int) (w : World) : Calls Try.prog 39 #[.int .i64 n] w fun e w' => e = .returned (.int .i64 (nearF n)) ∧ w = w' := by
  by_cases h : n < 0
  · rw [show nearF n = 0 from if_pos h]
    go_enter Try.func39, Try.ntmps39
    go_wp2
    go_ret
    exact ⟨rfl, rfl⟩
  · rw [show nearF n = if 2305843009213693952 < n then 2305843009213693952 else n from if_neg h]
    have h' : 0 ≤ n := by omega
    clear h
    go_enter Try.func39, Try.ntmps39
    go_wp2
    all_goals (go_ret; exact ⟨rfl, rfl⟩)
set_option maxHeartbeats 400000 in
theorem near_any (n : Int) (w : World) : Calls Try.prog 40 #[.int .i64 n] w fun e w' => e = .returned (.int .i64 (nearF n)) ∧ w = w' := by
  by_cases h : n < 0
  · rw [show nearF n = 0 from if_pos h]
    go_enter Try.func40, Try.ntmps40
    go_wp2
    go_ret
    exact ⟨rfl, rfl⟩
  · rw [show nearF n = if 2305843009213693952 < n then 2305843009213693952 else n from if_neg h]
    have h' : 0 ≤ n := by omega
    clear h
    go_enter Try.func40, Try.ntmps40
    go_wp2
    all_goals (go_ret; exact ⟨rfl, rfl⟩)

theorem timeout_zero (b m : Int) : timeoutF b m 0 = 0 ↔ (b < 1 ∨ m < b ∨ 1000000 < m) := by
  unfold timeoutF
  split
  · omega
  · rw [show dbl m (0 : Int).toNat b = b from rfl]; omega
/-- A pace in memory: its two timeouts, its view, since when. -/
def PaceIs (w : World) (g : Nat) (t : TypeId) (b m v s : Int) : Prop := Blk w g t #[.int .i64 b, .int .i64 m, .int .i64 v, .int .i64 s] ∧ 0 ≤ v ∧ v ≤ 2305843009213693952 ∧ 0 ≤ s ∧ s ≤ 2305843009213693952
theorem PaceIs.kept {w w' : World} {g : Nat} {t : TypeId} {b m v s : Int} {row : Option Nat} (h : PaceIs w g t b m v s) (hg : w.grownBy w' row) (hne : some g ≠ row) : PaceIs w' g t b m v s := ⟨h.1.kept hg hne, h.2⟩

set_option maxHeartbeats 400000 in
theorem new_no (b m : Int) (w : World) (h : b < 1 ∨ m < b ∨ 1000000 < m) : Calls Try.prog 19 #[.int .i64 b, .int .i64 m] w fun e w' => e = .returned (.pointer none) ∧ w = w' := by
  have e0 := (timeout_zero b m).2 h
  go_enter Try.func19, Try.ntmps19
  go_wp2_with (go_at_call 30; refine (timeout_any _ _ _ _).mono ?_; rintro e w' ⟨rfl, rfl⟩)
  go_ret
  exact ⟨rfl, rfl⟩
set_option maxHeartbeats 400000 in
theorem rnew_no (b m : Int) (w : World) (h : b < 1 ∨ m < b ∨ 1000000 < m) : Calls Try.prog 20 #[.int .i64 b, .int .i64 m] w fun e w' => e = .returned (.pointer none) ∧ w = w' := by
  have e0 := (timeout_zero b m).2 h
  go_enter Try.func20, Try.ntmps20
  go_wp2_with (go_at_call 36; refine (rtimeout_any _ _ _ _).mono ?_; rintro e w' ⟨rfl, rfl⟩)
  go_ret
  exact ⟨rfl, rfl⟩
set_option maxHeartbeats 400000 in
theorem new_yes (b m : Int) (w : World) (h1 : 1 ≤ b) (h2 : b ≤ m) (h3 : m ≤ 1000000) : Calls Try.prog 19 #[.int .i64 b, .int .i64 m] w fun e w' => e = .returned (.pointer (some ⟨w.heap.size, 0, none⟩)) ∧ w' = w.alloc (.cells #[.int .i64 b, .int .i64 m, .int .i64 0, .int .i64 0] 64) := by
  have e0 : (timeoutF b m 0 == 0) = false := by rw [beq_eq_false_iff_ne]; intro e; have := (timeout_zero b m).1 e; omega
  go_enter Try.func19, Try.ntmps19
  go_wp2_with (go_at_call 30; refine (timeout_any _ _ _ _).mono ?_; rintro e w' ⟨rfl, rfl⟩)
  go_ret
  exact ⟨rfl, rfl⟩
set_option maxHeartbeats 400000 in
theorem rnew_yes (b m : Int) (w : World) (h1 : 1 ≤ b) (h2 : b ≤ m) (h3 : m ≤ 1000000) : Calls Try.prog 20 #[.int .i64 b, .int .i64 m] w fun e w' => e = .returned (.pointer (some ⟨w.heap.size, 0, none⟩)) ∧ w' = w.alloc (.cells #[.int .i64 b, .int .i64 m, .int .i64 0, .int .i64 0] 48) := by
  have e0 : (timeoutF b m 0 == 0) = false := by rw [beq_eq_false_iff_ne]; intro e; have := (timeout_zero b m).1 e; omega
  go_enter Try.func20, Try.ntmps20
  go_wp2_with (go_at_call 36; refine (rtimeout_any _ _ _ _).mono ?_; rintro e w' ⟨rfl, rfl⟩)
  go_ret
  exact ⟨rfl, rfl⟩
theorem new_own (b m : Int) (w : World) (h1 : 1 ≤ b) (h2 : b ≤ m) (h3 : m ≤ 1000000) : Calls Try.prog 19 #[.int .i64 b, .int .i64 m] w fun e w' => e = .returned (.pointer (some ⟨w.heap.size, 0, none⟩)) ∧ PaceIs w' w.heap.size 64 b m 0 0 ∧ w.grownBy w' none ∧ w.heap.size < w'.heap.size :=
  (new_yes b m w h1 h2 h3).mono fun e w' ⟨he, hw⟩ => by subst hw; exact ⟨he, ⟨Blk.new _ _ _, by omega, by omega, by omega, by omega⟩, World.grownBy_alloc _ _ _, by simp⟩
theorem rnew_own (b m : Int) (w : World) (h1 : 1 ≤ b) (h2 : b ≤ m) (h3 : m ≤ 1000000) : Calls Try.prog 20 #[.int .i64 b, .int .i64 m] w fun e w' => e = .returned (.pointer (some ⟨w.heap.size, 0, none⟩)) ∧ PaceIs w' w.heap.size 48 b m 0 0 ∧ w.grownBy w' none ∧ w.heap.size < w'.heap.size :=
  (rnew_yes b m w h1 h2 h3).mono fun e w' ⟨he, hw⟩ => by subst hw; exact ⟨he, ⟨Blk.new _ _ _, by omega, by omega, by omega, by omega⟩, World.grownBy_alloc _ _ _, by simp⟩

/-- How long the view still lasts. -/
def leftF (b m v s n : Int) : Int := if timeoutF b m v - (if nearF n - s < 0 then 0 else nearF n - s) < 0 then 0 else timeoutF b m v - (if nearF n - s < 0 then 0 else nearF n - s)

set_option maxHeartbeats 1000000 in
theorem left_own (g : Nat) (b m v s n : Int) (w : World) (h : PaceIs w g 64 b m v s) :
    Calls Try.prog 26 #[.pointer (some ⟨g, 0, none⟩), .int .i64 n] w fun e w' => e = .returned (.int .i64 (leftF b m v s n)) ∧ ∃ k, w' = w.drewN k := by
  obtain ⟨hb, hv0, hv1, hs0, hs1⟩ := h
  have c0 : w.cell? ⟨g, 0, none⟩ = some (.int .i64 b) := hb.cell 0
  have c1 : w.cell? ⟨g, 1, none⟩ = some (.int .i64 m) := hb.cell 1
  have c2 : w.cell? ⟨g, 2, none⟩ = some (.int .i64 v) := hb.cell 2
  have c3 : w.cell? ⟨g, 3, none⟩ = some (.int .i64 s) := hb.cell 3
  have nb := nearF_bd n
  have tb := timeoutF_bd b m v
  obtain ⟨o, eo⟩ : ∃ o, (if nearF n - s < 0 then 0 else nearF n - s) = o := ⟨_, rfl⟩
  have ob : 0 ≤ o ∧ o ≤ 2305843009213693952 := by omega
  obtain ⟨l, el⟩ : ∃ l, (if timeoutF b m v - o < 0 then 0 else timeoutF b m v - o) = l := ⟨_, rfl⟩
  have hl : leftF b m v s n = l := by unfold leftF; rw [eo, el]
  rw [hl]
  clear hb hl
  go_enter Try.func26, Try.ntmps26
  go_wp2_with fail
  go_quiet ((first | (go_at_call 30; exact quiet_left (timeout_any _ _ _ _)) | (go_at_call 39; exact quiet_left (cut_any _ _))))
  go_wp2_with fail
  all_goals (go_ret; exact ⟨rfl, _, rfl⟩)
set_option maxHeartbeats 1000000 in
theorem rleft_own (g : Nat) (b m v s n : Int) (w : World) (h : PaceIs w g 48 b m v s) :
    Calls Try.prog 27 #[.pointer (some ⟨g, 0, none⟩), .int .i64 n] w fun e w' => e = .returned (.int .i64 (leftF b m v s n)) ∧ ∃ k, w' = w.drewN k := by
  obtain ⟨hb, hv0, hv1, hs0, hs1⟩ := h
  have c0 : w.cell? ⟨g, 0, none⟩ = some (.int .i64 b) := hb.cell 0
  have c1 : w.cell? ⟨g, 1, none⟩ = some (.int .i64 m) := hb.cell 1
  have c2 : w.cell? ⟨g, 2, none⟩ = some (.int .i64 v) := hb.cell 2
  have c3 : w.cell? ⟨g, 3, none⟩ = some (.int .i64 s) := hb.cell 3
  have nb := nearF_bd n
  have tb := timeoutF_bd b m v
  obtain ⟨o, eo⟩ : ∃ o, (if nearF n - s < 0 then 0 else nearF n - s) = o := ⟨_, rfl⟩
  have ob : 0 ≤ o ∧ o ≤ 2305843009213693952 := by omega
  obtain ⟨l, el⟩ : ∃ l, (if timeoutF b m v - o < 0 then 0 else timeoutF b m v - o) = l := ⟨_, rfl⟩
  have hl : leftF b m v s n = l := by unfold leftF; rw [eo, el]
  rw [hl]
  clear hb hl
  go_enter Try.func27, Try.ntmps27
  go_wp2_with fail
  go_quiet ((first | (go_at_call 36; exact quiet_left (rtimeout_any _ _ _ _)) | (go_at_call 40; exact quiet_left (near_any _ _))))
  go_wp2_with fail
  all_goals (go_ret; exact ⟨rfl, _, rfl⟩)

set_option maxHeartbeats 1000000 in
theorem enter_no (g : Nat) (b m v s x n : Int) (w : World) (h : PaceIs w g 64 b m v s) (hx : x ≤ v ∨ 2305843009213693952 < x) :
    Calls Try.prog 21 #[.pointer (some ⟨g, 0, none⟩), .int .i64 x, .int .i64 n] w fun e w' => e = .returned (.bool false) ∧ w = w' := by
  obtain ⟨hb, hv0, hv1, hs0, hs1⟩ := h
  have c2 : w.cell? ⟨g, 2, none⟩ = some (.int .i64 v) := hb.cell 2
  clear hb
  by_cases hx1 : x ≤ v
  · clear hx
    go_enter Try.func21, Try.ntmps21
    go_wp2_with fail
    go_ret
    exact ⟨rfl, rfl⟩
  · have hx2 : 2305843009213693952 < x := by omega
    have hx3 : v < x := by omega
    clear hx hx1
    go_enter Try.func21, Try.ntmps21
    go_wp2_with fail
    go_ret
    exact ⟨rfl, rfl⟩
set_option maxHeartbeats 1000000 in
theorem enter_yes (g : Nat) (b m v s x n : Int) (w : World) (h : PaceIs w g 64 b m v s) (hx : v < x) (hx1 : x ≤ 2305843009213693952) :
    Calls Try.prog 21 #[.pointer (some ⟨g, 0, none⟩), .int .i64 x, .int .i64 n] w fun e w' => e = .returned (.bool true) ∧ PaceIs w' g 64 b m x (nearF n) ∧ w.grownBy w' (some g) := by
  obtain ⟨hb, hv0, hv1, hs0, hs1⟩ := h
  have c2 : w.cell? ⟨g, 2, none⟩ = some (.int .i64 v) := hb.cell 2
  have c3 : w.cell? ⟨g, 3, none⟩ = some (.int .i64 s) := hb.cell 3
  have f2 : w.frozen? ⟨g, 2, none⟩ = false := hb.free 2
  have f3 : w.frozen? ⟨g, 3, none⟩ = false := hb.free 3
  have Hb := Lib.hid hb
  clear hb
  go_enter Try.func21, Try.ntmps21
  go_wp2_with (go_at_call 39; refine (cut_any _ _).mono ?_; rintro e w' ⟨rfl, rfl⟩)
  go_ret
  refine ⟨rfl, ⟨(Hb.out.set 2 _).set 3 _, by omega, hx1, (nearF_bd n).1, (nearF_bd n).2⟩, only_setCell (p := ⟨g, 3, none⟩) (only_setCell (p := ⟨g, 2, none⟩) (only_refl _ _) (.inl rfl) _) (.inl rfl) _⟩

set_option maxHeartbeats 1000000 in
theorem renter_no (g : Nat) (b m v s x n : Int) (w : World) (h : PaceIs w g 48 b m v s) (hx : x ≤ v ∨ 2305843009213693952 < x) :
    Calls Try.prog 22 #[.pointer (some ⟨g, 0, none⟩), .int .i64 x, .int .i64 n] w fun e w' => e = .returned (.bool false) ∧ w = w' := by
  obtain ⟨hb, hv0, hv1, hs0, hs1⟩ := h
  have c2 : w.cell? ⟨g, 2, none⟩ = some (.int .i64 v) := hb.cell 2
  clear hb
  by_cases hx1 : x ≤ v
  · clear hx
    go_enter Try.func22, Try.ntmps22
    go_wp2_with fail
    go_ret
    exact ⟨rfl, rfl⟩
  · have hx2 : 2305843009213693952 < x := by omega
    have hx3 : v < x := by omega
    clear hx hx1
    go_enter Try.func22, Try.ntmps22
    go_wp2_with fail
    go_ret
    exact ⟨rfl, rfl⟩
set_option maxHeartbeats 1000000 in
theorem renter_yes (g : Nat) (b m v s x n : Int) (w : World) (h : PaceIs w g 48 b m v s) (hx : v < x) (hx1 : x ≤ 2305843009213693952) :
    Calls Try.prog 22 #[.pointer (some ⟨g, 0, none⟩), .int .i64 x, .int .i64 n] w fun e w' => e = .returned (.bool true) ∧ PaceIs w' g 48 b m x (nearF n) ∧ w.grownBy w' (some g) := by
  obtain ⟨hb, hv0, hv1, hs0, hs1⟩ := h
  have c2 : w.cell? ⟨g, 2, none⟩ = some (.int .i64 v) := hb.cell 2
  have c3 : w.cell? ⟨g, 3, none⟩ = some (.int .i64 s) := hb.cell 3
  have f2 : w.frozen? ⟨g, 2, none⟩ = false := hb.free 2
  have f3 : w.frozen? ⟨g, 3, none⟩ = false := hb.free 3
  have Hb := Lib.hid hb
  clear hb
  go_enter Try.func22, Try.ntmps22
  go_wp2_with (go_at_call 40; refine (near_any _ _).mono ?_; rintro e w' ⟨rfl, rfl⟩)
  go_ret
  refine ⟨rfl, ⟨(Hb.out.set 2 _).set 3 _, by omega, hx1, (nearF_bd n).1, (nearF_bd n).2⟩, only_setCell (p := ⟨g, 3, none⟩) (only_setCell (p := ⟨g, 2, none⟩) (only_refl _ _) (.inl rfl) _) (.inl rfl) _⟩

set_option maxHeartbeats 1000000 in
theorem progress_own (g : Nat) (b m v s n : Int) (w : World) (h : PaceIs w g 64 b m v s) :
    Calls Try.prog 23 #[.pointer (some ⟨g, 0, none⟩), .int .i64 n] w fun e w' => e = .returned (.tuple #[]) ∧ PaceIs w' g 64 b m v (nearF n) ∧ w.grownBy w' (some g) := by
  obtain ⟨hb, hv0, hv1, hs0, hs1⟩ := h
  have c3 : w.cell? ⟨g, 3, none⟩ = some (.int .i64 s) := hb.cell 3
  have f3 : w.frozen? ⟨g, 3, none⟩ = false := hb.free 3
  have Hb := Lib.hid hb
  clear hb
  go_enter Try.func23, Try.ntmps23
  go_wp2_with (go_at_call 39; refine (cut_any _ _).mono ?_; rintro e w' ⟨rfl, rfl⟩)
  go_end0
  exact ⟨rfl, ⟨Hb.out.set 3 _, hv0, hv1, (nearF_bd n).1, (nearF_bd n).2⟩, only_setCell (only_refl _ _) (.inl rfl) _⟩

set_option maxHeartbeats 1000000 in
theorem rprogress_own (g : Nat) (b m v s n : Int) (w : World) (h : PaceIs w g 48 b m v s) :
    Calls Try.prog 24 #[.pointer (some ⟨g, 0, none⟩), .int .i64 n] w fun e w' => e = .returned (.tuple #[]) ∧ PaceIs w' g 48 b m v (nearF n) ∧ w.grownBy w' (some g) := by
  obtain ⟨hb, hv0, hv1, hs0, hs1⟩ := h
  have c3 : w.cell? ⟨g, 3, none⟩ = some (.int .i64 s) := hb.cell 3
  have f3 : w.frozen? ⟨g, 3, none⟩ = false := hb.free 3
  have Hb := Lib.hid hb
  clear hb
  go_enter Try.func24, Try.ntmps24
  go_wp2_with (go_at_call 40; refine (near_any _ _).mono ?_; rintro e w' ⟨rfl, rfl⟩)
  go_end0
  exact ⟨rfl, ⟨Hb.out.set 3 _, hv0, hv1, (nearF_bd n).1, (nearF_bd n).2⟩, only_setCell (only_refl _ _) (.inl rfl) _⟩

set_option maxHeartbeats 1000000 in
theorem due_own (g : Nat) (b m v s n : Int) (a : Bool) (w : World) (h : PaceIs w g 64 b m v s) :
    Calls Try.prog 28 #[.pointer (some ⟨g, 0, none⟩), .int .i64 n, .bool a] w fun e w' => e = .returned (.bool (a && (leftF b m v s n == 0))) ∧ ∃ k, w' = w.drewN k := by
  cases a
  · go_enter Try.func28, Try.ntmps28
    go_wp2_with fail
    go_ret
    exact ⟨rfl, 0, rfl⟩
  · go_enter Try.func28, Try.ntmps28
    go_wp2_with fail
    refine (left_own g b m v s n w h).mono ?_
    rintro e w1 ⟨rfl, k, rfl⟩
    go_wp2_with fail
    go_ret
    exact ⟨rfl, k, rfl⟩

set_option maxHeartbeats 1000000 in
theorem rdue_own (g : Nat) (b m v s n : Int) (a : Bool) (w : World) (h : PaceIs w g 48 b m v s) :
    Calls Try.prog 29 #[.pointer (some ⟨g, 0, none⟩), .int .i64 n, .bool a] w fun e w' => e = .returned (.bool (a && (leftF b m v s n == 0))) ∧ ∃ k, w' = w.drewN k := by
  cases a
  · go_enter Try.func29, Try.ntmps29
    go_wp2_with fail
    go_ret
    exact ⟨rfl, 0, rfl⟩
  · go_enter Try.func29, Try.ntmps29
    go_wp2_with fail
    refine (rleft_own g b m v s n w h).mono ?_
    rintro e w1 ⟨rfl, k, rfl⟩
    go_wp2_with fail
    go_ret
    exact ⟨rfl, k, rfl⟩

set_option maxHeartbeats 400000 in
theorem view_own (g : Nat) (b m v s : Int) (w : World) (h : PaceIs w g 64 b m v s) :
    Calls Try.prog 25 #[.pointer (some ⟨g, 0, none⟩)] w fun e w' => e = .returned (.int .i64 v) ∧ w = w' := by
  have c2 : w.cell? ⟨g, 2, none⟩ = some (.int .i64 v) := h.1.cell 2
  clear h
  go_enter Try.func25, Try.ntmps25
  go_wp2_with fail
  go_ret
  exact ⟨rfl, rfl⟩
set_option maxHeartbeats 400000 in
theorem view_nil (w : World) : Calls Try.prog 25 #[.pointer none] w fun e w' => e = .returned (.int .i64 0) ∧ w = w' := by
  go_enter Try.func25, Try.ntmps25
  go_wp2_with fail
  go_ret
  exact ⟨rfl, rfl⟩
set_option maxHeartbeats 400000 in
theorem left_nil (n : Int) (w : World) : Calls Try.prog 26 #[.pointer none, .int .i64 n] w fun e w' => e = .returned (.int .i64 0) ∧ w = w' := by
  go_enter Try.func26, Try.ntmps26
  go_wp2_with fail
  go_ret
  exact ⟨rfl, rfl⟩
set_option maxHeartbeats 400000 in
theorem due_nil (n : Int) (a : Bool) (w : World) : Calls Try.prog 28 #[.pointer none, .int .i64 n, .bool a] w fun e w' => e = .returned (.bool false) ∧ w = w' := by
  go_enter Try.func28, Try.ntmps28
  go_wp2_with fail
  go_ret
  exact ⟨rfl, rfl⟩
set_option maxHeartbeats 400000 in
theorem enter_nil (x n : Int) (w : World) : Calls Try.prog 21 #[.pointer none, .int .i64 x, .int .i64 n] w fun e w' => e = .returned (.bool false) ∧ w = w' := by
  go_enter Try.func21, Try.ntmps21
  go_wp2_with fail
  go_ret
  exact ⟨rfl, rfl⟩
set_option maxHeartbeats 400000 in
theorem progress_nil (n : Int) (w : World) : Calls Try.prog 23 #[.pointer none, .int .i64 n] w fun e w' => e = .returned (.tuple #[]) ∧ w = w' := by
  go_enter Try.func23, Try.ntmps23
  go_wp2_with fail
  go_end0
  exact ⟨rfl, rfl⟩
end Go.Proofs.Ytdjfbojnobjfgaa
