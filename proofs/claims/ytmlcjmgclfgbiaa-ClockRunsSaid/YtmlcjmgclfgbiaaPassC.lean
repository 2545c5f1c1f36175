/- The contract of the clocks' Pass. -/
import Derived.Test.YtmlcjmgclfgbiaaRows
import Derived.WalkKit
import Derived.WalkSpells
import Derived.WalkLawsBesides
import Derived.Handy
import Derived.Outline
import Derived.RegionTactic
import Derived.StillTailTactics
import Derived.Test.YtmlcjmgclfgbiaaMem
import Derived.Test.YtmlcjmgclfgbiaaFl
import Derived.Test.YtmlcjmgclfgbiaaFlRun
import Derived.Test.YtmlcjmgclfgbiaaClean
import Derived.Test.YtmlcjmgclfgbiaaMove
import Derived.Test.YtmlcjmgclfgbiaaCopy
import Derived.Test.YtmlcjmgclfgbiaaHand
import Derived.Test.YtmlcjmgclfgbiaaTwo
import Derived.Test.YtmlcjmgclfgbiaaClkA
import Derived.Test.YtmlcjmgclfgbiaaClk
namespace Go.Proofs.Ytmlcjmgclfgbiaa
open Go.RowKit
set_option linter.unusedVariables false

open Fl
/-- By how much clock i moves. -/
def mvI (r : Nat → Nat) (n : Int) (i : Nat) : Int := (mv (r i) (clampN n) : Int)
theorem mvI_bd {r : Nat → Nat} {n : Int} {i : Nat} (h : r i < 18446744073709551616) : 0 ≤ mvI r n i ∧ mvI r n i ≤ 16000 := by
  have := mv_le (x := r i) h (clampN_le n)
  unfold mvI; omega
/-- The worst behind the first k. -/
def wF (r : Nat → Nat) (n worst : Int) : Nat → Int
  | 0 => worst
  | k + 1 => max (wF r n worst k) (leastF n (mvI r n k))
theorem leastF_bd {n m : Int} (h1 : 1 ≤ n) : 0 ≤ leastF n m ∧ leastF n m ≤ 1001 := by
  have : 0 ≤ (1000 * max (m - n) (n - m) + n - 1) / n := Int.ediv_nonneg (by omega) (by omega)
  unfold leastF; omega
theorem wF_bd {r : Nat → Nat} {n worst : Int} (h1 : 1 ≤ n) (h2 : 0 ≤ worst) (h3 : worst ≤ 1001) (k : Nat) : 0 ≤ wF r n worst k ∧ wF r n worst k ≤ 1001 := by
  induction k with
  | zero => exact ⟨h2, h3⟩
  | succ k ih => have := leastF_bd (n := n) (m := mvI r n k) h1; unfold wF; omega
theorem infoI : (Try.prog.info? 3).map (fun i => (i.zero, i.size, i.bytes)) = some (some (.int .i64 0), 1, 8) := by kernel_rfl
theorem make_ints (W : World) (n : Nat) (hn : n ≤ 1000) : (Instr.makeSlice 56 (.int .i64 n) (.int .i64 n)).run Try.prog W = .ok (.slice (some ⟨W.heap.size, 0, none⟩) n n) (W.alloc (.cells (intA (fun _ => 0) n) 3)) := by
  obtain ⟨i0, hi, hz0, hz1, hz2⟩ := info_parts infoI
  have h := run_make (P := Try.prog) W 56 3 i0 _ Try.underlying56 hi hz0 .i64 .i64 n n (by omega) (by omega) (by rw [hz2]; omega) (by omega)
  rw [hz1] at h
  simp only [Int.toNat_natCast, made_int] at h
  exact h
def PassRel (g hb c : Nat) (nw : Nat → Int) (r : Nat → Nat) (ref worst n : Int) (w : World) (v : Value) (wr : World) : Prop :=
  ∃ k : Nat, k ≤ c ∧ v = .int .i64 k ∧ ClockIs wr g hb c (fun i => if i < k then nw i + mvI r n i else nw i) r ref (wF r n worst k) ∧ Blk wr w.heap.size 3 (intA (fun i => if i < k then mvI r n i else 0) c) ∧ Only2 w wr g hb
set_option maxHeartbeats 1000000 in
theorem pass_yes (g hb c : Nat) (nw : Nat → Int) (r : Nat → Nat) (ref worst n : Int) (w : World) (h : ClockIs w g hb c nw r ref worst) (hc : c ≤ 15) (hnw : ∀ i, i < c → 0 ≤ nw i ∧ nw i ≤ 1000000000000) (hr : ∀ i, i < c → r i < 18446744073709551616)
    (hf : 0 ≤ ref ∧ ref ≤ 1000000000000) (hw : 0 ≤ worst ∧ worst ≤ 1001) (h1 : 1 ≤ n) (h2 : n ≤ 1000) :
    Calls Try.prog 37 #[.pointer (some ⟨g, 0, none⟩), .int .i64 n] w fun e w' => e = .returned (.tuple #[.slice (some ⟨w.heap.size, 0, none⟩) c c, .int .i64 0]) ∧ ClockIs w' g hb c (fun i => nw i + mvI r n i) r (ref + n) (wF r n worst c) ∧ Blk w' w.heap.size 3 (intA (mvI r n) c) ∧ Only2 w w' g hb := by
  have H := Lib.hid h
  have Hnw := Lib.hid hnw
  have Hr := Lib.hid hr
  have c0 : w.cell? ⟨g, 0, none⟩ = some (.slice (some ⟨hb, 0, none⟩) c c) := h.1.cell 0
  have mk := fun W => make_ints W c (by omega)
  have hgl := h.1.lt
  have hhl := h.2.lt
  have HS : Hid (PassRel g hb c nw r ref worst n w (.int .i64 0) (w.alloc (.cells (intA (fun _ => 0) c) 3))) := ⟨0, by omega, rfl, ⟨h.1.alloc _, by simpa using h.2.alloc _⟩, by simpa using Blk.new w 3 (intA (fun _ => 0) c), Only2.new (World.grownBy_alloc _ _ _)⟩
  clear h hnw hr
  go_enter Try.func37, Try.ntmps37
  go_wp2_with fail
  go_loopw [28] (fun v wr => PassRel g hb c nw r ref worst n w v wr) (fun v _ => c - (intOf v).toNat)
  case atStart => exact HS.out
  case round =>
    clear HS c0
    obtain ⟨k, hk, rfl, hcl, hmb, ho⟩ := hrel
    have HC := Lib.hid hcl
    have HM := Lib.hid hmb
    have HO := Lib.hid ho
    have c0 : wr.cell? ⟨g, 0, none⟩ = some (.slice (some ⟨hb, 0, none⟩) c c) := hcl.1.cell 0
    clear hcl hmb ho
    by_cases hlt : k < c
    · have c1 : wr.cell? ⟨hb, k * 2 + 1, none⟩ = some (.float .f64 (r k)) := (HC.out.2.cell (k * 2 + 1)).trans (handA_get1 _ r hlt)
      have f1 : wr.frozen? ⟨w.heap.size, k, none⟩ = false := HM.out.free _
      have c3 : wr.cell? ⟨w.heap.size, k, none⟩ = some (.int .i64 0) := (HM.out.cell k).trans (by rw [intA_get, if_pos hlt, if_neg (Nat.lt_irrefl k)])
      have hi0 : (0 : Int) ≤ (k : Int) := by omega
      have hi1 : (k : Int) < (c : Int) := by omega
      have hrk := Hr.out k hlt
      have hmv := mvI_bd (n := n) hrk
      have em : (mv (r k) (clampN n) : Int) = mvI r n k := rfl
      go_wp2_with fail
      refine (move_any _ hrk _ _).mono ?_
      rw [em]
      rintro e w1 ⟨rfl, rfl⟩
      clear em
      go_wp2_with fail
      have hgm : g ≠ w.heap.size := by omega
      have hhm : hb ≠ w.heap.size := by omega
      have hgh : g ≠ hb := HC.out.ne
      have hnk := Hnw.out k hlt
      have hwk := wF_bd (r := r) h1 hw.1 hw.2 k
      obtain ⟨w1, hw1⟩ : ∃ w1, wr.setCell ⟨w.heap.size, k, none⟩ (.int .i64 (mvI r n k)) = w1 := ⟨_, rfl⟩
      have hM1 : Blk w1 w.heap.size 3 (intA (fun i => if i < k + 1 then mvI r n i else 0) c) := by
        rw [← hw1]
        have := HM.out.set k (.int .i64 (mvI r n k))
        rw [intA_set] at this
        rw [intA_congr (g := upd (fun i => if i < k then mvI r n i else 0) k (mvI r n k)) (fun i hi => by unfold upd; by_cases e : i = k <;> simp [e]; by_cases e2 : i < k <;> simp [e2] <;> omega)]
        exact this
      have hO1 : Only2 w w1 g hb := by rw [← hw1]; exact HO.out.set' _ (.inr (.inr (Nat.le_refl _)))
      have hC1 : ClockIs w1 g hb c (fun i => if i < k then nw i + mvI r n i else nw i) r ref (wF r n worst k) := by
        rw [← hw1]
        exact ⟨HC.out.1.kept (only_setCell (only_refl _ _) (.inl rfl) _) (by intro e; injection e with e; exact hgm e), HC.out.2.kept (only_setCell (only_refl _ _) (.inl rfl) _) (by intro e; injection e with e; exact hhm e)⟩
      rw [hw1]
      have d1 : w1.cell? ⟨hb, k * 2, none⟩ = some (.int .i64 (nw k)) := (hC1.2.cell (k * 2)).trans ((handA_get0 _ r hlt).trans (by rw [if_neg (Nat.lt_irrefl k)]))
      have d2 : w1.cell? ⟨w.heap.size, k, none⟩ = some (.int .i64 (mvI r n k)) := (hM1.cell k).trans (by rw [intA_get, if_pos hlt, if_pos (by omega)])
      have d3 : w1.frozen? ⟨hb, k * 2, none⟩ = false := hC1.2.free _
      have HC1 := Lib.hid hC1
      have HM1 := Lib.hid hM1
      have HO1 := Lib.hid hO1
      clear hC1 hM1 hO1 hw1 c0 c1 f1 c3 HC HM HO
      go_region
      go_wp2_with fail
      obtain ⟨w2, hw2⟩ : ∃ w2, (w1.setCell ⟨hb, k * 2, none⟩ (.int .i64 (nw k + mvI r n k))).drew = w2 := ⟨_, rfl⟩
      have g2 : w1.grownBy w2 (some hb) := by rw [← hw2]; exact only_drew (only_setCell (only_refl _ _) (.inl rfl) _)
      have hM2 : Blk w2 w.heap.size 3 (intA (fun i => if i < k + 1 then mvI r n i else 0) c) := HM1.out.kept g2 (by intro e; injection e with e; exact hhm e.symm)
      have hT2 : Blk w2 g 78 #[.slice (some ⟨hb, 0, none⟩) c c, .int .i64 ref, .int .i64 (wF r n worst k)] := HC1.out.1.kept g2 (by intro e; injection e with e; exact hgh e)
      have hH2 : Blk w2 hb 76 (handA (fun i => if i < k + 1 then nw i + mvI r n i else nw i) r c) := by
        rw [← hw2]
        have := (HC1.out.2.set (k * 2) (.int .i64 (nw k + mvI r n k))).drew
        rw [handA_set0] at this
        rw [handA_congr (g := upd (fun i => if i < k then nw i + mvI r n i else nw i) k (nw k + mvI r n k)) (s := r) (fun i hi => by unfold upd; by_cases e : i = k <;> simp [e]; by_cases e2 : i < k <;> simp [e2] <;> omega) (fun _ _ => rfl)]
        exact this
      have HO2 := Lib.hid (HO1.out.step g2 (.inr (.inl rfl)))
      rw [hw2]
      have q1 : w2.cell? ⟨g, 2, none⟩ = some (.int .i64 (wF r n worst k)) := hT2.cell 2
      have q2 : w2.cell? ⟨w.heap.size, k, none⟩ = some (.int .i64 (mvI r n k)) := (hM2.cell k).trans (by rw [intA_get, if_pos hlt, if_pos (by omega)])
      have q3 : w2.frozen? ⟨g, 2, none⟩ = false := hT2.free _
      have HM2 := Lib.hid hM2
      have HT2 := Lib.hid hT2
      have HH2 := Lib.hid hH2
      have hlb := leastF_bd (n := n) (m := mvI r n k) h1
      obtain ⟨x, hx⟩ : ∃ x, (if wF r n worst k < leastF n (mvI r n k) then leastF n (mvI r n k) else wF r n worst k) = x := ⟨_, rfl⟩
      have hx2 : wF r n worst (k + 1) = x := by show max _ _ = x; omega
      have HN : Hid (PassRel g hb c nw r ref worst n w (.int .i64 ((k : Int) + 1)) (w2.drew.setCell ⟨g, 2, none⟩ (.int .i64 x))) :=
        ⟨k + 1, by omega, by go_num, ⟨by rw [hx2]; exact HT2.out.drew.set 2 _, HH2.out.drew.kept (only_setCell (only_refl _ _) (.inl rfl) _) (by intro e; injection e with e; exact hgh e.symm)⟩, HM2.out.drew.kept (only_setCell (only_refl _ _) (.inl rfl) _) (by intro e; injection e with e; exact hgm e.symm), (HO2.out.grow (only_drew (only_refl _ _))).set' _ (.inl rfl)⟩
      clear hM2 hT2 hH2 hw2 g2 d1 d2 d3 hx2
      refine wp_region_still_tail 14 (by kernel_rfl) (by kernel_rfl) ?_
      simp only [List.take_succ_cons, List.take_zero, List.drop_succ_cons, List.drop_zero]
      repeat (first | still_step | still_call (Calls.same (least_any _ _ h1 h2 hmv.1 hmv.2 _)))
      refine wpStill_nil ?_
      change wpList _ _ _ _ _ w2.drew
      go_wp2_with fail
      exact ⟨HN.out, by simp [intOf]; omega⟩
    · have : k = c := by omega
      subst this
      have c1 : wr.cell? ⟨g, 1, none⟩ = some (.int .i64 ref) := HC.out.1.cell 1
      have f1 : wr.frozen? ⟨g, 1, none⟩ = false := HC.out.1.free 1
      have hgm : g ≠ w.heap.size := by omega
      have hgh : g ≠ hb := HC.out.ne
      go_wp2_with fail
      go_ret2
      refine ⟨rfl, ⟨HC.out.1.set 1 _, ?_⟩, ?_, HO.out.set' _ (.inl rfl)⟩
      · rw [handA_congr (g := fun i => if i < k then nw i + mvI r n i else nw i) (s := r) (fun i hi => by rw [if_pos hi]) (fun _ _ => rfl)]
        exact HC.out.2.kept (only_setCell (only_refl _ _) (.inl rfl) _) (by intro e; injection e with e; exact hgh e.symm)
      · rw [intA_congr (g := fun i => if i < k then mvI r n i else 0) (fun i hi => by rw [if_pos hi])]
        exact HM.out.kept (only_setCell (only_refl _ _) (.inl rfl) _) (by intro e; injection e with e; exact hgm e.symm)
theorem pass_no (g hb c : Nat) (nw : Nat → Int) (r : Nat → Nat) (ref worst n : Int) (w : World) (h : ClockIs w g hb c nw r ref worst) (hn : n < 1 ∨ 1000 < n) :
    Calls Try.prog 37 #[.pointer (some ⟨g, 0, none⟩), .int .i64 n] w fun e w' => e = .returned (.tuple #[.slice none 0 0, .int .i64 1]) ∧ w = w' := by
  clear h
  by_cases h1 : n < 1
  · clear hn
    go_enter Try.func37, Try.ntmps37
    go_wp2_with fail
    go_ret2
    exact ⟨rfl, rfl⟩
  · have h2 : 1000 < n := by omega
    have h3 : 1 ≤ n := by omega
    clear hn h1
    go_enter Try.func37, Try.ntmps37
    go_wp2_with fail
    go_ret2
    exact ⟨rfl, rfl⟩
theorem pass_nil (n : Int) (w : World) : Calls Try.prog 37 #[.pointer none, .int .i64 n] w fun e w' => e = .returned (.tuple #[.slice none 0 0, .int .i64 6]) ∧ w = w' := by
  go_enter Try.func37, Try.ntmps37
  go_wp2_with fail
  go_ret2
  exact ⟨rfl, rfl⟩
end Go.Proofs.Ytmlcjmgclfgbiaa
