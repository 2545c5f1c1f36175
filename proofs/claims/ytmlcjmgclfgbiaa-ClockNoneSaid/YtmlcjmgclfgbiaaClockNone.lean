/- ClockNone returns true at every input, and its arguments read as they did: no condition. -/
import Derived.Test.YtmlcjmgclfgbiaaRows
import Derived.WalkKit
import Derived.ProofKit
import Derived.OpenShut
import Derived.ShutString
import Derived.ChangeOld
import Derived.Below
import Derived.WalkSpells
import Derived.WalkLawsBesides
import Derived.Handy
import Derived.Test.YtmlcjmgclfgbiaaMem
import Derived.Test.YtmlcjmgclfgbiaaFl
import Derived.Test.YtmlcjmgclfgbiaaFlRun
import Derived.Test.YtmlcjmgclfgbiaaClean
import Derived.Test.YtmlcjmgclfgbiaaMove
import Derived.Test.YtmlcjmgclfgbiaaCopy
import Derived.Test.YtmlcjmgclfgbiaaHand
import Derived.Test.YtmlcjmgclfgbiaaTwo
import Derived.Test.YtmlcjmgclfgbiaaClkA
import Derived.Test.YtmlcjmgclfgbiaaClk
import Derived.Test.YtmlcjmgclfgbiaaPassC
import Derived.Test.YtmlcjmgclfgbiaaAw3
import Derived.Test.YtmlcjmgclfgbiaaNil3
namespace Go.Proofs.Ytmlcjmgclfgbiaa.clockNone
open Go.ChangeShapes Go.WideShapes Go.ChangeAt Go.RowKit
open Go.ChangeMaps (open_string shut_string)
set_option linter.unusedVariables false

open Fl
theorem one_lt : (4607182418800017408 : Nat) < 18446744073709551616 := by omega
/-- What Set gives. -/
theorem set_ei {g hb c : Nat} {w : World} (h : ClockIs w g hb c (fun _ => 0) (fun _ => 4607182418800017408) 0 0) (hc : c ≤ 15) (i : Int) :
    ∃ ok a b : Bool, decide (0 ≤ i) = a ∧ decide (i < (c : Int)) = b ∧ (a && b) = ok ∧ Calls Try.prog 40 #[.pointer (some ⟨g, 0, none⟩), .int .i64 i, .float .f64 4611686018427387904] w fun e w' => e = .returned (.int .i64 (if ok then 0 else 6)) ∧ (∃ r : Nat → Nat, (∀ j, r j < 18446744073709551616) ∧ ClockIs w' g hb c (fun _ => 0) r 0 0) ∧ w.grownBy w' (some hb) := by
  refine ⟨_, _, _, rfl, rfl, rfl, ?_⟩
  have h1 := one_lt
  by_cases hi : 0 ≤ i ∧ i < (c : Int)
  · obtain ⟨j, rfl⟩ : ∃ j : Nat, i = j := ⟨i.toNat, by omega⟩
    have hj : j < c := by omega
    rw [decide_eq_true hi.1, decide_eq_true hi.2]
    refine (set_yes h hc j 4611686018427387904 hj).mono ?_
    rintro e w' ⟨rfl, h2, h3⟩
    refine ⟨rfl, ⟨_, fun x => ?_, h2⟩, h3⟩
    have := (cl_spec 4611686018427387904 (by omega)).1
    unfold upd
    by_cases e : x = j <;> simp [e] <;> omega
  · have : (decide (0 ≤ i) && decide (i < (c : Int))) = false := by
      rw [Bool.and_eq_false_iff, decide_eq_false_iff_not, decide_eq_false_iff_not]; omega
    rw [this]
    refine (set_no h hc i 4611686018427387904 (by omega)).mono ?_
    rintro e w' ⟨rfl, rfl⟩
    exact ⟨rfl, ⟨_, fun x => by omega, h⟩, only_refl _ _⟩
set_option maxRecDepth 100000 in
set_option maxHeartbeats 4000000 in
theorem walk (a0 a1 a2 : Int) (w : World) (w0 : (Lit.int .i64 a0).wf = true) (w1 : (Lit.int .i64 a1).wf = true) (w2 : (Lit.int .i64 a2).wf = true) :
    Calls Try.prog 11 #[.int .i64 a0, .int .i64 a1, .int .i64 a2] w fun e w' => e = .returned (.bool true) ∧ Below w.heap.size w w' := by
  clear w0 w1 w2
  have hc := countF_le a0
  obtain ⟨a, ha⟩ : ∃ a, (if a0 < 0 then 0 else a0) = a := ⟨_, rfl⟩
  obtain ⟨b, hb⟩ : ∃ b, (if 15 < a then 15 else a) = b := ⟨_, rfl⟩
  have hbc : b = (countF a0 : Int) := by unfold countF; omega
  obtain ⟨c, hcc⟩ : ∃ c, countF a0 = c := ⟨_, rfl⟩
  have HN := new_any a0
  rw [hcc] at hbc hc HN
  subst hbc
  have HNew := Lib.hid HN
  clear hcc HN
  go_enter Try.func11, Try.ntmps11
  simp only [List.append]
  go_wp2_with fail
  refine (HNew.out _).mono ?_
  rintro e w1 ⟨g, hb', rfl, hc1, hg1, hl1, hl2⟩
  have HC := Lib.hid hc1
  have HB := Lib.hid (below_only (Below.refl w.heap.size w) (Nat.le_refl _) hg1 (by simp))
  clear hc1 hg1
  go_wp2_with fail
  refine (len_any HC.out hc).mono ?_
  rintro e w1' ⟨rfl, rfl⟩
  go_wp2_with fail
  obtain ⟨ok, x, y, hx, hy, hxy, cs⟩ := set_ei HC.out hc a1
  have hst : (ok = true ∧ 0 ≤ a1 ∧ a1 < (c : Int) ∧ decide (0 ≤ a1) = true ∧ decide (a1 < (c : Int)) = true) ∨ (ok = false ∧ a1 < 0 ∧ decide (0 ≤ a1) = false) ∨ (ok = false ∧ 0 ≤ a1 ∧ (c : Int) ≤ a1 ∧ decide (0 ≤ a1) = true ∧ decide (a1 < (c : Int)) = false) := by
    by_cases h1 : 0 ≤ a1
    · by_cases h2 : a1 < (c : Int)
      · left; refine ⟨?_, h1, h2, decide_eq_true h1, decide_eq_true h2⟩
        rw [← hxy, ← hx, ← hy, decide_eq_true h1, decide_eq_true h2]; rfl
      · right; right; refine ⟨?_, h1, by omega, decide_eq_true h1, decide_eq_false h2⟩
        rw [← hxy, ← hx, ← hy, decide_eq_true h1, decide_eq_false h2]; rfl
    · right; left; refine ⟨?_, by omega, decide_eq_false h1⟩
      rw [← hxy, ← hx, decide_eq_false h1]; rfl
  clear hx hy hxy
  have hps : (1 ≤ a2 ∧ a2 ≤ 1000 ∧ decide (1 ≤ a2) = true ∧ decide (a2 ≤ 1000) = true) ∨ (a2 < 1 ∧ decide (1 ≤ a2) = false) ∨ (1000 < a2 ∧ decide (1 ≤ a2) = true ∧ decide (a2 ≤ 1000) = false) := by
    by_cases h1 : 1 ≤ a2
    · by_cases h2 : a2 ≤ 1000
      · left; exact ⟨h1, h2, decide_eq_true h1, decide_eq_true h2⟩
      · right; right; exact ⟨by omega, decide_eq_true h1, decide_eq_false h2⟩
    · right; left; exact ⟨by omega, decide_eq_false h1⟩
  have hcnt : (ok = true ∧ (a0 = (c : Int) ∨ 15 < a0 ∧ c = 15)) ∨ ok = false := by
    rcases hst with h | h | h
    · left; exact ⟨h.1, by omega⟩
    · right; exact h.1
    · right; exact h.1
  rcases hst with ⟨rfl, i1, i2, i3, i4⟩ | ⟨rfl, i1, i3⟩ | ⟨rfl, i1, i2, i3, i4⟩
  · replace hcnt : a0 = (c : Int) ∨ 15 < a0 ∧ c = 15 := by rcases hcnt with h | h; exact h.2; cases h
    clear ha hb
    rcases hcnt with h0 | ⟨h0, h0c⟩
    · subst h0
      rcases hps with hps | hps | hps
      · have e6 : (if true = true then (0 : Int) else 6) = 0 := rfl
        rw [e6] at cs
        clear e6
        refine cs.mono ?_
        rintro e w2 ⟨rfl, ⟨r, hr, hc2⟩, hg2⟩
        have HC2 := Lib.hid hc2
        have HR := Lib.hid hr
        have HB2 := Lib.hid (below_only HB.out HB.out.size hg2 (by simp; omega))
        clear hc2 hg2 hr cs
        go_wp2_with fail
        obtain ⟨h1, h2, h3, h4⟩ := hps
        refine (pass_yes g hb' _ _ r _ _ a2 _ HC2.out hc (fun _ _ => by omega) (fun j _ => HR.out j) (by omega) (by omega) h1 h2).mono ?_
        rintro e w3 ⟨rfl, hc3, _, ho3⟩
        have HC3 := Lib.hid hc3
        have HB3 := Lib.hid (Only2.below HB2.out HB2.out.size ho3 hl1 hl2)
        clear hc3 ho3
        go_wp2_with fail
        refine (pass_nil _ _).mono ?_
        rintro e w9 ⟨rfl, rfl⟩
        go_wp2_with fail
        refine (len_nil _).mono ?_
        rintro e w9 ⟨rfl, rfl⟩
        go_wp2_with fail
        refine (now_nil _).mono ?_
        rintro e w9 ⟨rfl, rfl⟩
        go_wp2_with fail
        refine (ref_nil _).mono ?_
        rintro e w9 ⟨rfl, rfl⟩
        go_wp2_with fail
        refine (worst_nil _).mono ?_
        rintro e w9 ⟨rfl, rfl⟩
        go_wp2_with fail
        refine (set_nil _ _).mono ?_
        rintro e w9 ⟨rfl, rfl⟩
        go_wp2_with fail
        refine (awake3_any _).mono ?_
        rintro e w9 ⟨rfl, hg9⟩
        go_wp2_with fail
        go_ret
        exact ⟨rfl, below_only HB3.out (by have := HB3.out.size; omega) hg9 (by simp)⟩
      · have e6 : (if true = true then (0 : Int) else 6) = 0 := rfl
        rw [e6] at cs
        clear e6
        refine cs.mono ?_
        rintro e w2 ⟨rfl, ⟨r, hr, hc2⟩, hg2⟩
        have HC2 := Lib.hid hc2
        have HR := Lib.hid hr
        have HB2 := Lib.hid (below_only HB.out HB.out.size hg2 (by simp; omega))
        clear hc2 hg2 hr cs
        go_wp2_with fail
        obtain ⟨h1, h3⟩ := hps
        refine (pass_no g hb' _ _ r _ _ a2 _ HC2.out (by omega)).mono ?_
        rintro e w3 ⟨rfl, rfl⟩
        have HC3 := HC2
        have HB3 := HB2
        go_wp2_with fail
        refine (pass_nil _ _).mono ?_
        rintro e w9 ⟨rfl, rfl⟩
        go_wp2_with fail
        refine (ref_any HC3.out).mono ?_
        rintro e w9 ⟨rfl, rfl⟩
        go_wp2_with fail
        refine (len_nil _).mono ?_
        rintro e w9 ⟨rfl, rfl⟩
        go_wp2_with fail
        refine (now_nil _).mono ?_
        rintro e w9 ⟨rfl, rfl⟩
        go_wp2_with fail
        refine (ref_nil _).mono ?_
        rintro e w9 ⟨rfl, rfl⟩
        go_wp2_with fail
        refine (worst_nil _).mono ?_
        rintro e w9 ⟨rfl, rfl⟩
        go_wp2_with fail
        refine (set_nil _ _).mono ?_
        rintro e w9 ⟨rfl, rfl⟩
        go_wp2_with fail
        refine (awake3_any _).mono ?_
        rintro e w9 ⟨rfl, hg9⟩
        go_wp2_with fail
        go_ret
        exact ⟨rfl, below_only HB3.out (by have := HB3.out.size; omega) hg9 (by simp)⟩
      · have e6 : (if true = true then (0 : Int) else 6) = 0 := rfl
        rw [e6] at cs
        clear e6
        refine cs.mono ?_
        rintro e w2 ⟨rfl, ⟨r, hr, hc2⟩, hg2⟩
        have HC2 := Lib.hid hc2
        have HR := Lib.hid hr
        have HB2 := Lib.hid (below_only HB.out HB.out.size hg2 (by simp; omega))
        clear hc2 hg2 hr cs
        go_wp2_with fail
        obtain ⟨h1, h3, h4⟩ := hps
        refine (pass_no g hb' _ _ r _ _ a2 _ HC2.out (by omega)).mono ?_
        rintro e w3 ⟨rfl, rfl⟩
        have HC3 := HC2
        have HB3 := HB2
        go_wp2_with fail
        refine (pass_nil _ _).mono ?_
        rintro e w9 ⟨rfl, rfl⟩
        go_wp2_with fail
        refine (ref_any HC3.out).mono ?_
        rintro e w9 ⟨rfl, rfl⟩
        go_wp2_with fail
        refine (len_nil _).mono ?_
        rintro e w9 ⟨rfl, rfl⟩
        go_wp2_with fail
        refine (now_nil _).mono ?_
        rintro e w9 ⟨rfl, rfl⟩
        go_wp2_with fail
        refine (ref_nil _).mono ?_
        rintro e w9 ⟨rfl, rfl⟩
        go_wp2_with fail
        refine (worst_nil _).mono ?_
        rintro e w9 ⟨rfl, rfl⟩
        go_wp2_with fail
        refine (set_nil _ _).mono ?_
        rintro e w9 ⟨rfl, rfl⟩
        go_wp2_with fail
        refine (awake3_any _).mono ?_
        rintro e w9 ⟨rfl, hg9⟩
        go_wp2_with fail
        go_ret
        exact ⟨rfl, below_only HB3.out (by have := HB3.out.size; omega) hg9 (by simp)⟩
    · subst h0c
      rcases hps with hps | hps | hps
      · have e6 : (if true = true then (0 : Int) else 6) = 0 := rfl
        rw [e6] at cs
        clear e6
        refine cs.mono ?_
        rintro e w2 ⟨rfl, ⟨r, hr, hc2⟩, hg2⟩
        have HC2 := Lib.hid hc2
        have HR := Lib.hid hr
        have HB2 := Lib.hid (below_only HB.out HB.out.size hg2 (by simp; omega))
        clear hc2 hg2 hr cs
        go_wp2_with fail
        obtain ⟨h1, h2, h3, h4⟩ := hps
        refine (pass_yes g hb' _ _ r _ _ a2 _ HC2.out hc (fun _ _ => by omega) (fun j _ => HR.out j) (by omega) (by omega) h1 h2).mono ?_
        rintro e w3 ⟨rfl, hc3, _, ho3⟩
        have HC3 := Lib.hid hc3
        have HB3 := Lib.hid (Only2.below HB2.out HB2.out.size ho3 hl1 hl2)
        clear hc3 ho3
        go_wp2_with fail
        refine (pass_nil _ _).mono ?_
        rintro e w9 ⟨rfl, rfl⟩
        go_wp2_with fail
        refine (len_nil _).mono ?_
        rintro e w9 ⟨rfl, rfl⟩
        go_wp2_with fail
        refine (now_nil _).mono ?_
        rintro e w9 ⟨rfl, rfl⟩
        go_wp2_with fail
        refine (ref_nil _).mono ?_
        rintro e w9 ⟨rfl, rfl⟩
        go_wp2_with fail
        refine (worst_nil _).mono ?_
        rintro e w9 ⟨rfl, rfl⟩
        go_wp2_with fail
        refine (set_nil _ _).mono ?_
        rintro e w9 ⟨rfl, rfl⟩
        go_wp2_with fail
        refine (awake3_any _).mono ?_
        rintro e w9 ⟨rfl, hg9⟩
        go_wp2_with fail
        go_ret
        exact ⟨rfl, below_only HB3.out (by have := HB3.out.size; omega) hg9 (by simp)⟩
      · have e6 : (if true = true then (0 : Int) else 6) = 0 := rfl
        rw [e6] at cs
        clear e6
        refine cs.mono ?_
        rintro e w2 ⟨rfl, ⟨r, hr, hc2⟩, hg2⟩
        have HC2 := Lib.hid hc2
        have HR := Lib.hid hr
        have HB2 := Lib.hid (below_only HB.out HB.out.size hg2 (by simp; omega))
        clear hc2 hg2 hr cs
        go_wp2_with fail
        obtain ⟨h1, h3⟩ := hps
        refine (pass_no g hb' _ _ r _ _ a2 _ HC2.out (by omega)).mono ?_
        rintro e w3 ⟨rfl, rfl⟩
        have HC3 := HC2
        have HB3 := HB2
        go_wp2_with fail
        refine (pass_nil _ _).mono ?_
        rintro e w9 ⟨rfl, rfl⟩
        go_wp2_with fail
        refine (ref_any HC3.out).mono ?_
        rintro e w9 ⟨rfl, rfl⟩
        go_wp2_with fail
        refine (len_nil _).mono ?_
        rintro e w9 ⟨rfl, rfl⟩
        go_wp2_with fail
        refine (now_nil _).mono ?_
        rintro e w9 ⟨rfl, rfl⟩
        go_wp2_with fail
        refine (ref_nil _).mono ?_
        rintro e w9 ⟨rfl, rfl⟩
        go_wp2_with fail
        refine (worst_nil _).mono ?_
        rintro e w9 ⟨rfl, rfl⟩
        go_wp2_with fail
        refine (set_nil _ _).mono ?_
        rintro e w9 ⟨rfl, rfl⟩
        go_wp2_with fail
        refine (awake3_any _).mono ?_
        rintro e w9 ⟨rfl, hg9⟩
        go_wp2_with fail
        go_ret
        exact ⟨rfl, below_only HB3.out (by have := HB3.out.size; omega) hg9 (by simp)⟩
      · have e6 : (if true = true then (0 : Int) else 6) = 0 := rfl
        rw [e6] at cs
        clear e6
        refine cs.mono ?_
        rintro e w2 ⟨rfl, ⟨r, hr, hc2⟩, hg2⟩
        have HC2 := Lib.hid hc2
        have HR := Lib.hid hr
        have HB2 := Lib.hid (below_only HB.out HB.out.size hg2 (by simp; omega))
        clear hc2 hg2 hr cs
        go_wp2_with fail
        obtain ⟨h1, h3, h4⟩ := hps
        refine (pass_no g hb' _ _ r _ _ a2 _ HC2.out (by omega)).mono ?_
        rintro e w3 ⟨rfl, rfl⟩
        have HC3 := HC2
        have HB3 := HB2
        go_wp2_with fail
        refine (pass_nil _ _).mono ?_
        rintro e w9 ⟨rfl, rfl⟩
        go_wp2_with fail
        refine (ref_any HC3.out).mono ?_
        rintro e w9 ⟨rfl, rfl⟩
        go_wp2_with fail
        refine (len_nil _).mono ?_
        rintro e w9 ⟨rfl, rfl⟩
        go_wp2_with fail
        refine (now_nil _).mono ?_
        rintro e w9 ⟨rfl, rfl⟩
        go_wp2_with fail
        refine (ref_nil _).mono ?_
        rintro e w9 ⟨rfl, rfl⟩
        go_wp2_with fail
        refine (worst_nil _).mono ?_
        rintro e w9 ⟨rfl, rfl⟩
        go_wp2_with fail
        refine (set_nil _ _).mono ?_
        rintro e w9 ⟨rfl, rfl⟩
        go_wp2_with fail
        refine (awake3_any _).mono ?_
        rintro e w9 ⟨rfl, hg9⟩
        go_wp2_with fail
        go_ret
        exact ⟨rfl, below_only HB3.out (by have := HB3.out.size; omega) hg9 (by simp)⟩
  · clear hcnt
    rcases hps with hps | hps | hps
    · have e6 : (if false = true then (0 : Int) else 6) = 6 := rfl
      rw [e6] at cs
      clear e6
      refine cs.mono ?_
      rintro e w2 ⟨rfl, ⟨r, hr, hc2⟩, hg2⟩
      have HC2 := Lib.hid hc2
      have HR := Lib.hid hr
      have HB2 := Lib.hid (below_only HB.out HB.out.size hg2 (by simp; omega))
      clear hc2 hg2 hr cs
      go_wp2_with fail
      obtain ⟨h1, h2, h3, h4⟩ := hps
      refine (pass_yes g hb' _ _ r _ _ a2 _ HC2.out hc (fun _ _ => by omega) (fun j _ => HR.out j) (by omega) (by omega) h1 h2).mono ?_
      rintro e w3 ⟨rfl, hc3, _, ho3⟩
      have HC3 := Lib.hid hc3
      have HB3 := Lib.hid (Only2.below HB2.out HB2.out.size ho3 hl1 hl2)
      clear hc3 ho3
      go_wp2_with fail
      refine (pass_nil _ _).mono ?_
      rintro e w9 ⟨rfl, rfl⟩
      go_wp2_with fail
      refine (now_no HC3.out hc _ (.inl i1)).mono ?_
      rintro e w9 ⟨rfl, rfl⟩
      go_wp2_with fail
      refine (len_nil _).mono ?_
      rintro e w9 ⟨rfl, rfl⟩
      go_wp2_with fail
      refine (now_nil _).mono ?_
      rintro e w9 ⟨rfl, rfl⟩
      go_wp2_with fail
      refine (ref_nil _).mono ?_
      rintro e w9 ⟨rfl, rfl⟩
      go_wp2_with fail
      refine (worst_nil _).mono ?_
      rintro e w9 ⟨rfl, rfl⟩
      go_wp2_with fail
      refine (set_nil _ _).mono ?_
      rintro e w9 ⟨rfl, rfl⟩
      go_wp2_with fail
      refine (awake3_any _).mono ?_
      rintro e w9 ⟨rfl, hg9⟩
      go_wp2_with fail
      go_ret
      exact ⟨rfl, below_only HB3.out (by have := HB3.out.size; omega) hg9 (by simp)⟩
    · have e6 : (if false = true then (0 : Int) else 6) = 6 := rfl
      rw [e6] at cs
      clear e6
      refine cs.mono ?_
      rintro e w2 ⟨rfl, ⟨r, hr, hc2⟩, hg2⟩
      have HC2 := Lib.hid hc2
      have HR := Lib.hid hr
      have HB2 := Lib.hid (below_only HB.out HB.out.size hg2 (by simp; omega))
      clear hc2 hg2 hr cs
      go_wp2_with fail
      obtain ⟨h1, h3⟩ := hps
      refine (pass_no g hb' _ _ r _ _ a2 _ HC2.out (by omega)).mono ?_
      rintro e w3 ⟨rfl, rfl⟩
      have HC3 := HC2
      have HB3 := HB2
      go_wp2_with fail
      refine (pass_nil _ _).mono ?_
      rintro e w9 ⟨rfl, rfl⟩
      go_wp2_with fail
      refine (now_no HC3.out hc _ (.inl i1)).mono ?_
      rintro e w9 ⟨rfl, rfl⟩
      go_wp2_with fail
      refine (ref_any HC3.out).mono ?_
      rintro e w9 ⟨rfl, rfl⟩
      go_wp2_with fail
      refine (len_nil _).mono ?_
      rintro e w9 ⟨rfl, rfl⟩
      go_wp2_with fail
      refine (now_nil _).mono ?_
      rintro e w9 ⟨rfl, rfl⟩
      go_wp2_with fail
      refine (ref_nil _).mono ?_
      rintro e w9 ⟨rfl, rfl⟩
      go_wp2_with fail
      refine (worst_nil _).mono ?_
      rintro e w9 ⟨rfl, rfl⟩
      go_wp2_with fail
      refine (set_nil _ _).mono ?_
      rintro e w9 ⟨rfl, rfl⟩
      go_wp2_with fail
      refine (awake3_any _).mono ?_
      rintro e w9 ⟨rfl, hg9⟩
      go_wp2_with fail
      go_ret
      exact ⟨rfl, below_only HB3.out (by have := HB3.out.size; omega) hg9 (by simp)⟩
    · have e6 : (if false = true then (0 : Int) else 6) = 6 := rfl
      rw [e6] at cs
      clear e6
      refine cs.mono ?_
      rintro e w2 ⟨rfl, ⟨r, hr, hc2⟩, hg2⟩
      have HC2 := Lib.hid hc2
      have HR := Lib.hid hr
      have HB2 := Lib.hid (below_only HB.out HB.out.size hg2 (by simp; omega))
      clear hc2 hg2 hr cs
      go_wp2_with fail
      obtain ⟨h1, h3, h4⟩ := hps
      refine (pass_no g hb' _ _ r _ _ a2 _ HC2.out (by omega)).mono ?_
      rintro e w3 ⟨rfl, rfl⟩
      have HC3 := HC2
      have HB3 := HB2
      go_wp2_with fail
      refine (pass_nil _ _).mono ?_
      rintro e w9 ⟨rfl, rfl⟩
      go_wp2_with fail
      refine (now_no HC3.out hc _ (.inl i1)).mono ?_
      rintro e w9 ⟨rfl, rfl⟩
      go_wp2_with fail
      refine (ref_any HC3.out).mono ?_
      rintro e w9 ⟨rfl, rfl⟩
      go_wp2_with fail
      refine (len_nil _).mono ?_
      rintro e w9 ⟨rfl, rfl⟩
      go_wp2_with fail
      refine (now_nil _).mono ?_
      rintro e w9 ⟨rfl, rfl⟩
      go_wp2_with fail
      refine (ref_nil _).mono ?_
      rintro e w9 ⟨rfl, rfl⟩
      go_wp2_with fail
      refine (worst_nil _).mono ?_
      rintro e w9 ⟨rfl, rfl⟩
      go_wp2_with fail
      refine (set_nil _ _).mono ?_
      rintro e w9 ⟨rfl, rfl⟩
      go_wp2_with fail
      refine (awake3_any _).mono ?_
      rintro e w9 ⟨rfl, hg9⟩
      go_wp2_with fail
      go_ret
      exact ⟨rfl, below_only HB3.out (by have := HB3.out.size; omega) hg9 (by simp)⟩
  · clear hcnt
    rcases hps with hps | hps | hps
    · have e6 : (if false = true then (0 : Int) else 6) = 6 := rfl
      rw [e6] at cs
      clear e6
      refine cs.mono ?_
      rintro e w2 ⟨rfl, ⟨r, hr, hc2⟩, hg2⟩
      have HC2 := Lib.hid hc2
      have HR := Lib.hid hr
      have HB2 := Lib.hid (below_only HB.out HB.out.size hg2 (by simp; omega))
      clear hc2 hg2 hr cs
      go_wp2_with fail
      obtain ⟨h1, h2, h3, h4⟩ := hps
      refine (pass_yes g hb' _ _ r _ _ a2 _ HC2.out hc (fun _ _ => by omega) (fun j _ => HR.out j) (by omega) (by omega) h1 h2).mono ?_
      rintro e w3 ⟨rfl, hc3, _, ho3⟩
      have HC3 := Lib.hid hc3
      have HB3 := Lib.hid (Only2.below HB2.out HB2.out.size ho3 hl1 hl2)
      clear hc3 ho3
      go_wp2_with fail
      refine (pass_nil _ _).mono ?_
      rintro e w9 ⟨rfl, rfl⟩
      go_wp2_with fail
      refine (now_no HC3.out hc _ (.inr i2)).mono ?_
      rintro e w9 ⟨rfl, rfl⟩
      go_wp2_with fail
      refine (len_nil _).mono ?_
      rintro e w9 ⟨rfl, rfl⟩
      go_wp2_with fail
      refine (now_nil _).mono ?_
      rintro e w9 ⟨rfl, rfl⟩
      go_wp2_with fail
      refine (ref_nil _).mono ?_
      rintro e w9 ⟨rfl, rfl⟩
      go_wp2_with fail
      refine (worst_nil _).mono ?_
      rintro e w9 ⟨rfl, rfl⟩
      go_wp2_with fail
      refine (set_nil _ _).mono ?_
      rintro e w9 ⟨rfl, rfl⟩
      go_wp2_with fail
      refine (awake3_any _).mono ?_
      rintro e w9 ⟨rfl, hg9⟩
      go_wp2_with fail
      go_ret
      exact ⟨rfl, below_only HB3.out (by have := HB3.out.size; omega) hg9 (by simp)⟩
    · have e6 : (if false = true then (0 : Int) else 6) = 6 := rfl
      rw [e6] at cs
      clear e6
      refine cs.mono ?_
      rintro e w2 ⟨rfl, ⟨r, hr, hc2⟩, hg2⟩
      have HC2 := Lib.hid hc2
      have HR := Lib.hid hr
      have HB2 := Lib.hid (below_only HB.out HB.out.size hg2 (by simp; omega))
      clear hc2 hg2 hr cs
      go_wp2_with fail
      obtain ⟨h1, h3⟩ := hps
      refine (pass_no g hb' _ _ r _ _ a2 _ HC2.out (by omega)).mono ?_
      rintro e w3 ⟨rfl, rfl⟩
      have HC3 := HC2
      have HB3 := HB2
      go_wp2_with fail
      refine (pass_nil _ _).mono ?_
      rintro e w9 ⟨rfl, rfl⟩
      go_wp2_with fail
      refine (now_no HC3.out hc _ (.inr i2)).mono ?_
      rintro e w9 ⟨rfl, rfl⟩
      go_wp2_with fail
      refine (ref_any HC3.out).mono ?_
      rintro e w9 ⟨rfl, rfl⟩
      go_wp2_with fail
      refine (len_nil _).mono ?_
      rintro e w9 ⟨rfl, rfl⟩
      go_wp2_with fail
      refine (now_nil _).mono ?_
      rintro e w9 ⟨rfl, rfl⟩
      go_wp2_with fail
      refine (ref_nil _).mono ?_
      rintro e w9 ⟨rfl, rfl⟩
      go_wp2_with fail
      refine (worst_nil _).mono ?_
      rintro e w9 ⟨rfl, rfl⟩
      go_wp2_with fail
      refine (set_nil _ _).mono ?_
      rintro e w9 ⟨rfl, rfl⟩
      go_wp2_with fail
      refine (awake3_any _).mono ?_
      rintro e w9 ⟨rfl, hg9⟩
      go_wp2_with fail
      go_ret
      exact ⟨rfl, below_only HB3.out (by have := HB3.out.size; omega) hg9 (by simp)⟩
    · have e6 : (if false = true then (0 : Int) else 6) = 6 := rfl
      rw [e6] at cs
      clear e6
      refine cs.mono ?_
      rintro e w2 ⟨rfl, ⟨r, hr, hc2⟩, hg2⟩
      have HC2 := Lib.hid hc2
      have HR := Lib.hid hr
      have HB2 := Lib.hid (below_only HB.out HB.out.size hg2 (by simp; omega))
      clear hc2 hg2 hr cs
      go_wp2_with fail
      obtain ⟨h1, h3, h4⟩ := hps
      refine (pass_no g hb' _ _ r _ _ a2 _ HC2.out (by omega)).mono ?_
      rintro e w3 ⟨rfl, rfl⟩
      have HC3 := HC2
      have HB3 := HB2
      go_wp2_with fail
      refine (pass_nil _ _).mono ?_
      rintro e w9 ⟨rfl, rfl⟩
      go_wp2_with fail
      refine (now_no HC3.out hc _ (.inr i2)).mono ?_
      rintro e w9 ⟨rfl, rfl⟩
      go_wp2_with fail
      refine (ref_any HC3.out).mono ?_
      rintro e w9 ⟨rfl, rfl⟩
      go_wp2_with fail
      refine (len_nil _).mono ?_
      rintro e w9 ⟨rfl, rfl⟩
      go_wp2_with fail
      refine (now_nil _).mono ?_
      rintro e w9 ⟨rfl, rfl⟩
      go_wp2_with fail
      refine (ref_nil _).mono ?_
      rintro e w9 ⟨rfl, rfl⟩
      go_wp2_with fail
      refine (worst_nil _).mono ?_
      rintro e w9 ⟨rfl, rfl⟩
      go_wp2_with fail
      refine (set_nil _ _).mono ?_
      rintro e w9 ⟨rfl, rfl⟩
      go_wp2_with fail
      refine (awake3_any _).mono ?_
      rintro e w9 ⟨rfl, hg9⟩
      go_wp2_with fail
      go_ret
      exact ⟨rfl, below_only HB3.out (by have := HB3.out.size; omega) hg9 (by simp)⟩

theorem own : ownKnob Try.prog.godebug = none := by kernel_rfl
theorem laidOut : laidOutB Try.prog = true := by kernel_rfl

set_option maxRecDepth 100000 in
theorem lifted (os : Os) (started : os.Started) (H : Type) (enc : TypeId × Value → H) :
    ReturnsInHanded {} Try.checked os 11 .any (Rows.clockNoneSpec.pre6 enc Try.prog Try.f11 Rows.clockNoneRow.domain false) (Rows.clockNoneSpec.post enc Try.prog Try.f11 false true false false) := by
  refine returnsInHanded_of_change (C := Try.checked) own started (by kernel_rfl) Try.func11
    (ChangeSpec.witness6 (enc := enc) (C := Try.checked) false ⟨#[], #[.int .i64 0, .int .i64 0, .int .i64 0], []⟩ 8 (by kernel_rfl) (by kernel_rfl) (by kernel_rfl) (by kernel_rfl)) ?_
  intro W base args ds gs before hval0 hW hcnd _
  have hval : ∀ (j : Nat) t v, Try.f11.params[j]? = some t → args[j]? = some v → Value.okWide Try.prog W .any base t v := hval0
  have hW' := hW
  obtain ⟨p, q, hA0, hV, rfl, hfz, hnd⟩ := hW
  have hA : DataW.TrodAll enc Try.prog W 0 (fun _ => true) true Try.f11.params.toList args.toList ds p := hA0
  rw [Try.params11] at hA hval
  obtain ⟨v0, vs0, d0, ds0, p0, q0, hargs, rfl, rfl, h0, r0⟩ := trodAll_cons hA
  obtain ⟨v1, vs1, d1, ds1, p1, q1, rfl, rfl, rfl, h1, r1⟩ := trodAll_cons r0
  obtain ⟨v2, vs2, d2, ds2, p2, q2, rfl, rfl, rfl, h2, r2⟩ := trodAll_cons r1
  obtain ⟨rfl, rfl, rfl⟩ := trodAll_nil r2
  obtain rfl : args = #[v0, v1, v2] := by cases args; simp_all
  obtain ⟨rfl, rfl⟩ := trodVars_none hV
  obtain ⟨a0, rfl, rfl, rfl, w0⟩ := open_int Try.underlying3 (hval 0 3 v0 rfl rfl) h0
  obtain ⟨a1, rfl, rfl, rfl, w1⟩ := open_int Try.underlying3 (hval 1 3 v1 rfl rfl) h1
  obtain ⟨a2, rfl, rfl, rfl, w2⟩ := open_int Try.underlying3 (hval 2 3 v2 rfl rfl) h2
  clear hA0 hval0
  refine (walk a0 a1 a2 W w0 w1 w2).mono fun e W' ⟨he, bel⟩ => ?_
  subst he
  exact ⟨_, rfl, _, _, _, [], _, [], hW', trodAll_mk1 (shut_bool Try.underlying4 _), (trodAll_cons_mk (shut_int Try.underlying3 w0) (trodAll_cons_mk (shut_int Try.underlying3 w1) (trodAll_cons_mk (shut_int Try.underlying3 w2) trodAll_mk0))), rfl, bel.frame _, fun h => by cases h⟩

theorem over : Rows.clockNoneRow.holds Try.pinned (OpenSpec.ofChange Rows.clockNoneSpec) :=
  OpenClaim.holds_of_wide 11 Try.f11 rfl rfl rfl rfl rfl rfl rfl ⟨rfl, rfl, rfl, rfl, rfl⟩ rfl rfl rfl rfl rfl (by kernel_rfl) Try.func11 (by kernel_rfl)
    (of_decide_eq_true (by kernel_rfl)) (by unfold Func.isWrapper; first | (rw [if_pos (by decide +kernel)]; kernel_rfl) | (rw [if_neg (by decide +kernel)]; exact ⟨rfl, rfl⟩))
    (fun os started H enc _ => lifted os started H enc)

/-- The statement. -/
theorem proved : Rows.ClockNoneSaid := over
#print axioms proved
end Go.Proofs.Ytmlcjmgclfgbiaa.clockNone
