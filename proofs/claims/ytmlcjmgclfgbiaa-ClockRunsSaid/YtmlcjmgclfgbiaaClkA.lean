/- The contracts of clock.least, math/bits.Mul (of one), slices.Repeat (of one hand). -/
import Derived.Test.YtmlcjmgclfgbiaaRows
import Derived.WalkKit
import Derived.WalkSpells
import Derived.WalkLawsBesides
import Derived.Handy
import Derived.Deep.RegionLaw
import Derived.OwnWalk
import Derived.Test.YtmlcjmgclfgbiaaMem
import Derived.Test.YtmlcjmgclfgbiaaFl
import Derived.Test.YtmlcjmgclfgbiaaFlRun
import Derived.Test.YtmlcjmgclfgbiaaClean
import Derived.Test.YtmlcjmgclfgbiaaMove
import Derived.Test.YtmlcjmgclfgbiaaCopy
import Derived.Test.YtmlcjmgclfgbiaaHand
namespace Go.Proofs.Ytmlcjmgclfgbiaa
open Go.RowKit
set_option linter.unusedVariables false

open Fl
/-- The least number of thousandths within which a move is, or 1001. -/
def leastF (n m : Int) : Int := min ((1000 * max (m - n) (n - m) + n - 1) / n) 1001
set_option maxHeartbeats 1000000 in
theorem least_any (n m : Int) (h1 : 1 ≤ n) (h2 : n ≤ 1000) (h3 : 0 ≤ m) (h4 : m ≤ 16000) (w : World) :
    Calls Try.prog 52 #[.int .i64 n, .int .i64 m] w fun e w' => e = .returned (.int .i64 (leastF n m)) ∧ w = w' := by
  obtain ⟨d, hd⟩ : ∃ d, (if m - n < n - m then n - m else m - n) = d := ⟨_, rfl⟩
  have hd1 : 0 ≤ d ∧ d ≤ 16000 := by omega
  have hd2 : max (m - n) (n - m) = d := by omega
  have hz : (n == 0) = false := by rw [beq_eq_false_iff_ne]; omega
  have hq1 : 0 ≤ (1000 * d + n - 1) / n := Int.ediv_nonneg (by omega) (by omega)
  have hq2 : (1000 * d + n - 1) / n ≤ 1000 * d + n - 1 := Int.ediv_le_self _ (by omega)
  unfold leastF
  rw [hd2]
  obtain ⟨r, hr⟩ : ∃ r, (if 1001 < (1000 * d + n - 1) / n then 1001 else (1000 * d + n - 1) / n) = r := ⟨_, rfl⟩
  have hr2 : min ((1000 * d + n - 1) / n) 1001 = r := by omega
  rw [hr2]
  clear hd2 hr2
  go_enter Try.func52, Try.ntmps52
  go_wp2
  all_goals (go_ret; exact ⟨rfl, rfl⟩)
set_option maxHeartbeats 1000000 in
theorem mul64_one (n : Int) (hn : n = 0 ∨ n = 1 ∨ n = 2 ∨ n = 3 ∨ n = 4 ∨ n = 5 ∨ n = 6 ∨ n = 7 ∨ n = 8 ∨ n = 9 ∨ n = 10 ∨ n = 11 ∨ n = 12 ∨ n = 13 ∨ n = 14 ∨ n = 15) (w : World) :
    Calls Try.prog 60 #[.int .u64 1, .int .u64 n] w fun e w' => e = .returned (.tuple #[.int .u64 0, .int .u64 n]) ∧ w = w' := by
  rcases hn with rfl | rfl | rfl | rfl | rfl | rfl | rfl | rfl | rfl | rfl | rfl | rfl | rfl | rfl | rfl | rfl
  all_goals
    go_enter Try.func60, Try.ntmps60
    go_wp2
    go_ret2
    exact ⟨rfl, rfl⟩
set_option maxHeartbeats 1000000 in
theorem mul_one (n : Int) (hn : n = 0 ∨ n = 1 ∨ n = 2 ∨ n = 3 ∨ n = 4 ∨ n = 5 ∨ n = 6 ∨ n = 7 ∨ n = 8 ∨ n = 9 ∨ n = 10 ∨ n = 11 ∨ n = 12 ∨ n = 13 ∨ n = 14 ∨ n = 15) (w : World) :
    Calls Try.prog 57 #[.int .u64 1, .int .u64 n] w fun e w' => e = .returned (.tuple #[.int .u64 0, .int .u64 n]) ∧ w = w' := by
  have c := mul64_one n hn
  have Hn := Lib.hid hn
  clear hn
  go_enter Try.func57, Try.ntmps57
  go_wp2_with fail
  refine (c _).mono ?_
  rintro e w' ⟨rfl, rfl⟩
  go_wp2_with fail
  go_ret2
  exact ⟨rfl, rfl⟩
/-- The first k rates are 1. -/
def rF (k : Nat) : Nat → Nat := fun i => if i < k then 4607182418800017408 else 0
theorem hand_first (n : Nat) (hn : 1 ≤ n) : ((handA (fun _ => 0) (fun _ => 0) n).toList.take 0 ++ [Value.int .i64 0, Value.float .f64 4607182418800017408] ++ (handA (fun _ => 0) (fun _ => 0) n).toList.drop (0 + [Value.int .i64 0, .float .f64 4607182418800017408].length)).toArray = handA (fun _ => 0) (rF 1) n := by
  apply Array.ext_getElem?
  intro j
  rw [handA_get]
  simp only [List.getElem?_toArray, List.take_zero, List.nil_append, List.getElem?_append, List.getElem?_drop, Array.getElem?_toList, handA_get, List.length_cons, List.length_nil]
  have hj : j = 0 ∨ j = 1 ∨ 2 ≤ j := by omega
  rcases hj with rfl | rfl | hj
  · simp; omega
  · simp [rF]; omega
  · rw [if_neg (by omega), show 0 + (0 + 1 + 1) + (j - (0 + 1 + 1)) = j by omega]
    unfold rF
    by_cases h : j < n * 2
    · rw [if_pos h, if_pos h, if_neg (show ¬ j / 2 < 1 by omega)]
    · rw [if_neg h, if_neg h]
theorem hand_next (n k m : Nat) (hm : m = min k (n - k)) (hk : k ≤ n) : ((handA (fun _ => 0) (rF k) n).toList.take (k * 2) ++ (handA (fun _ => 0) (rF k) n).toList.take (m * 2) ++ (handA (fun _ => 0) (rF k) n).toList.drop (k * 2 + ((handA (fun _ => 0) (rF k) n).toList.take (m * 2)).length)).toArray = handA (fun _ => 0) (rF (k + m)) n := by
  apply Array.ext_getElem?
  intro j
  rw [handA_get]
  have l1 : ((handA (fun _ => 0) (rF k) n).toList.take (k * 2)).length = k * 2 := by simp [handA_size]; omega
  have l2 : ((handA (fun _ => 0) (rF k) n).toList.take (m * 2)).length = m * 2 := by simp [handA_size]; omega
  simp only [List.getElem?_toArray, List.getElem?_append, List.getElem?_drop, List.getElem?_take, Array.getElem?_toList, handA_get, List.length_append, l1, l2]
  unfold rF
  by_cases a : j < k * 2
  · rw [if_pos (show j < k * 2 + m * 2 by omega), if_pos a, if_pos a, if_pos (show j < n * 2 by omega), if_pos (show j < n * 2 by omega), if_pos (show j / 2 < k by omega), if_pos (show j / 2 < k + m by omega)]
  · by_cases b : j < k * 2 + m * 2
    · rw [if_pos b, if_neg a, if_pos (show j - k * 2 < m * 2 by omega), if_pos (show j - k * 2 < n * 2 by omega), if_pos (show j < n * 2 by omega), if_pos (show (j - k * 2) / 2 < k by omega), if_pos (show j / 2 < k + m by omega), show (j - k * 2) % 2 = j % 2 by omega]
    · rw [if_neg b, show k * 2 + m * 2 + (j - (k * 2 + m * 2)) = j by omega, if_neg (show ¬ j / 2 < k by omega), if_neg (show ¬ j / 2 < k + m by omega)]
theorem infoH : (Try.prog.info? 76).map (fun i => (i.zero, i.size, i.bytes)) = some (some (.agg #[.int .i64 0, .float .f64 0]), 2, 16) := by kernel_rfl
theorem infoHs : (Try.prog.info? 76).map (·.size) = some 2 := by kernel_rfl
theorem make_hands (W : World) (n : Nat) (hn : n ≤ 15) : (Instr.makeSlice 73 (.int .i64 n) (.int .i64 n)).run Try.prog W = .ok (.slice (some ⟨W.heap.size, 0, none⟩) n n) (W.alloc (.cells (handA (fun _ => 0) (fun _ => 0) n) 76)) := by
  obtain ⟨i0, hi, hz0, hz1, hz2⟩ := info_parts infoH
  have h := run_make (P := Try.prog) W 73 76 i0 _ Try.underlying73 hi hz0 .i64 .i64 n n (by omega) (by omega) (by rw [hz2]; omega) (by omega)
  rw [hz1] at h
  simp only [Int.toNat_natCast, made_hand] at h
  exact h
def RepRel (g n : Nat) (w : World) (v : Value) (wr : World) : Prop := ∃ k : Nat, 1 ≤ k ∧ k ≤ n ∧ v = .int .i64 k ∧ Blk wr g 76 (handA (fun _ => 0) (rF k) n) ∧ w.grownBy wr none

set_option maxHeartbeats 400000 in
theorem repeat_any (b n : Nat) (hn : n ≤ 15) (w : World) (hb : Blk w b 76 #[.int .i64 0, .float .f64 4607182418800017408]) :
    Calls Try.prog 51 #[.slice (some ⟨b, 0, none⟩) 1 1, .int .i64 n] w fun e w' => e = .returned (.slice (some ⟨w.heap.size, 0, none⟩) n n) ∧ Blk w' w.heap.size 76 (handA (fun _ => 0) (fun _ => 4607182418800017408) n) ∧ w.grownBy w' none := by
  have c := mul_one n (by omega)
  have mk := fun W => make_hands W n hn
  have Hb := Lib.hid hb
  clear hb
  by_cases h0 : n = 0
  · subst h0
    show Calls Try.prog 51 #[.slice (some ⟨b, 0, none⟩) 1 1, .int .i64 0] w _
    have c0 := mul_one 0 (by omega)
    have mk0 : ∀ W : World, (Instr.makeSlice 73 (.int .i64 0) (.int .i64 0)).run Try.prog W = .ok (.slice (some ⟨W.heap.size, 0, none⟩) 0 0) (W.alloc (.cells (handA (fun _ => 0) (fun _ => 0) 0) 76)) := fun W => make_hands W 0 (by omega)
    clear c mk
    have Hblk := Lib.hid (Blk.new w 76 (handA (fun _ => 0) (fun _ => 0) 0))
    go_enter Try.func51, Try.ntmps51
    go_wp2_with fail
    refine (c0 _).mono ?_
    rintro e w' ⟨rfl, rfl⟩
    go_wp2_with ((with_reducible refine wpList_copyS rfl (.tmp 31) (.tmp 32) 73 73 rfl 76 2 Try.underlying73 infoHs w.heap.size 0 0 0 ⟨b, 0, none⟩ 1 1 ?_ ?_ (handA (fun _ => 0) (fun _ => 0) 0) 76 Hblk.out [] 0 ?_ ?_ ?_ ?_ ?_ (handA (fun _ => 0) (fun _ => 0) 0) ?_ ?_); rfl; rfl; rfl; rfl; (intro j v hj; cases hj); (simp); (intro v hv; cases hv); (simp); intro w2 hw2 hg2; have Hw2 := Lib.hid hw2; have Hg2 := Lib.hid hg2; clear hw2 hg2)
    refine wp_loop_rounds 1 ?_
    rw [rounds_succ]
    go_wp2_with fail
    go_ret
    exact ⟨rfl, by rw [handA_congr (g := fun _ => 0) (s := fun _ => 0) (fun _ _ => rfl) (fun i hi => by omega)]; exact Hw2.out, only_none (only_trans (World.grownBy_alloc _ _ _) Hg2.out) (Nat.le_refl _)⟩
  · have h1 : 1 ≤ n := by omega
    clear h0
    go_enter Try.func51, Try.ntmps51
    go_wp2_with fail
    refine (c _).mono ?_
    rintro e w' ⟨rfl, rfl⟩
    have Hblk := Lib.hid (Blk.new w 76 (handA (fun _ => 0) (fun _ => 0) n))
    have HF := Lib.hid (hand_first n h1)
    have Hsrc : Hid (∀ (j : Nat) (v : Value), [Value.int .i64 0, Value.float .f64 4607182418800017408][j]? = some v → (w.alloc (.cells (handA (fun _ => 0) (fun _ => 0) n) 76)).cell? ((⟨b, 0, none⟩ : Addr).add j) = some v) := fun j v hj => by
      rw [addr_add, (Hb.out.alloc _).cell, Nat.zero_add]; simpa using hj
    have Hfit : Hid (0 + [Value.int .i64 0, Value.float .f64 4607182418800017408].length ≤ (handA (fun _ => 0) (fun _ => 0) n).size) := by show _ ≤ _; rw [handA_size]; simp; omega
    have Hone : Hid (∀ v ∈ [Value.int .i64 0, Value.float .f64 4607182418800017408], v.oneCell' = true) := fun v hv => by simp at hv; rcases hv with rfl | rfl <;> rfl
    have Hm : Hid (Nat.min 1 n = 1) := Nat.min_eq_left h1
    go_wp2_with ((with_reducible refine wpList_copyS rfl (.tmp 31) (.tmp 32) 73 73 rfl 76 2 Try.underlying73 infoHs w.heap.size 0 n n ⟨b, 0, none⟩ 1 1 ?_ ?_ (handA (fun _ => 0) (fun _ => 0) n) 76 Hblk.out [Value.int .i64 0, Value.float .f64 4607182418800017408] 1 Hm.out ?_ Hsrc.out Hfit.out Hone.out (handA (fun _ => 0) (rF 1) n) HF.out ?_); rfl; rfl; rfl; intro w2 hw2 hg2; have Hw2 := Lib.hid hw2; have Hg2 := Lib.hid hg2; clear hw2 hg2)
    clear Hblk HF Hsrc Hfit Hone Hm
    have HS : Hid (RepRel w.heap.size n w (.int .i64 1) w2) := ⟨1, by omega, h1, rfl, Hw2.out, only_none (only_trans (World.grownBy_alloc _ _ _) Hg2.out) (Nat.le_refl _)⟩
    go_loopw [8] (fun v wr => RepRel w.heap.size n w v wr) (fun v _ => n - (intOf v).toNat)
    case atStart => exact HS.out
    case round =>
      clear HS
      obtain ⟨k, hk1, hk2, rfl, hb2, hg⟩ := hrel
      have Hb2 := Lib.hid hb2
      have Hg := Lib.hid hg
      clear hb2 hg
      by_cases hlt : k < n
      · go_wp2_with fail
        have hkn : k ≤ n := hk2
        have hi0 : (0 : Int) ≤ (k : Int) := by omega
        have hi1 : (k : Int) ≤ (n : Int) := by omega
        obtain ⟨m, hm⟩ : ∃ m, min k (n - k) = m := ⟨_, rfl⟩
        have hm1 : 1 ≤ m := by omega
        have hm2 : k + m ≤ n := by omega
        have HF := Lib.hid (hand_next n k m hm.symm hk2)
        obtain ⟨cs, hcs⟩ : ∃ cs, (handA (fun _ => 0) (rF k) n).toList.take (m * 2) = cs := ⟨_, rfl⟩
        have hl : cs.length = m * 2 := by rw [← hcs]; simp [handA_size]; omega
        have hone : ∀ v ∈ cs, v.oneCell' = true := fun v hv => by
          rw [← hcs] at hv
          obtain ⟨j, hj⟩ := List.getElem?_of_mem hv
          rw [List.getElem?_take] at hj
          split at hj
          · rw [Array.getElem?_toList, handA_get] at hj
            split at hj
            · injection hj with hj; rw [← hj]; split <;> rfl
            · cases hj
          · cases hj
        have hsrc : ∀ (j : Nat) (v : Value), cs[j]? = some v → wr.drew.cell? ((⟨w.heap.size, 0, none⟩ : Addr).add j) = some v := fun j v hj => by
          rw [addr_add, Hb2.out.drew.cell, Nat.zero_add]
          rw [← hcs, List.getElem?_take] at hj
          split at hj
          · simpa using hj
          · cases hj
        rw [hcs] at HF
        have hfit : k * 2 + cs.length ≤ (handA (fun _ => 0) (rF k) n).size := by rw [hl, handA_size]; omega
        have HL := Lib.hid hl
        have HO := Lib.hid hone
        have HSrc := Lib.hid hsrc
        have HFit := Lib.hid hfit
        have HM : Hid (Nat.min k (n - k) = m) := hm
        clear hm hcs hl hone hsrc hfit
        have hne : ¬ n = k := by omega
        have HWr : Hid (IntKind.i64.wrap ((k : Int) + (m : Int)) = (k : Int) + (m : Int)) := by show _ = _; rw [IntKind.wrap_i64]; omega
        go_region_law (refine step_copyS rfl (.tmp 41) (.tmp 44) 73 73 rfl 76 2 Try.underlying73 infoHs w.heap.size (k * 2) (n - k) (n - k) ⟨w.heap.size, 0, none⟩ k n (by simp [Act.eval, Act.put]) (by simp [Act.eval, Act.put]) (handA (fun _ => 0) (rF k) n) 76 Hb2.out.drew cs m HM.out HL.out HSrc.out HFit.out HO.out (handA (fun _ => 0) (rF (k + m)) n) HF.out ?_; intro w3 hw3 hg3; have Hw3 := Lib.hid hw3; have Hg3 := Lib.hid hg3; clear hw3 hg3)
        have HN : Hid (RepRel w.heap.size n w (.int .i64 ((k : Int) + (m : Int))) w3) := ⟨k + m, by omega, by omega, by go_num, Hw3.out, only_none (only_trans (only_but (only_drew Hg.out) _) Hg3.out) (Nat.le_refl _)⟩
        go_wp2_with fail
        rw [HWr.out]
        exact ⟨HN.out, by simp [intOf]; omega⟩
      · have : k = n := by omega
        subst this
        go_wp2_with fail
        go_ret
        exact ⟨rfl, by rw [handA_congr (fun _ _ => rfl) (fun i hi => show (4607182418800017408 : Nat) = rF k i by unfold rF; rw [if_pos hi])]; exact Hb2.out, Hg.out⟩
end Go.Proofs.Ytmlcjmgclfgbiaa
