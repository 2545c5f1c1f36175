/- Plain laws of drift: moves within the worst sum up. -/
import Derived.Test.YtmlcjmgclfgbiaaRows
import Derived.WalkKit
import Derived.WalkSpells
import Derived.WalkLawsBesides
import Derived.Handy
import Derived.Test.YtmlcjmgclfgbiaaMem
import Derived.Test.YtmlcjmgclfgbiaaFl
import Derived.Test.YtmlcjmgclfgbiaaFlRun
import Derived.Test.YtmlcjmgclfgbiaaClean
import Derived.Test.YtmlcjmgclfgbiaaMove
import Derived.Test.YtmlcjmgclfgbiaaRateW
import Derived.Test.YtmlcjmgclfgbiaaCopy
import Derived.Test.YtmlcjmgclfgbiaaHand
import Derived.Test.YtmlcjmgclfgbiaaTwo
import Derived.Test.YtmlcjmgclfgbiaaClkA
import Derived.Test.YtmlcjmgclfgbiaaClk
import Derived.Test.YtmlcjmgclfgbiaaPassC
import Derived.Test.YtmlcjmgclfgbiaaWorstP
namespace Go.Proofs.Ytmlcjmgclfgbiaa
open Go.RowKit
set_option linter.unusedVariables false

open Fl
def Near (wo x R : Int) : Prop := wo ≤ 1000 → 1000 * x ≤ wo * R ∧ -(1000 * x) ≤ wo * R
theorem near_zero (wo : Int) : Near wo 0 0 := fun _ => by rw [Int.mul_zero]; omega
theorem wF_ge {r : Nat → Nat} {n wo : Int} {i k : Nat} (h : i < k) : leastF n (mvI r n i) ≤ wF r n wo k := by
  induction k with
  | zero => omega
  | succ k ih =>
    show _ ≤ max (wF r n wo k) (leastF n (mvI r n k))
    by_cases e : i = k
    · subst e; exact Int.le_max_right _ _
    · exact Int.le_trans (ih (by omega)) (Int.le_max_left _ _)
theorem wF_up {r : Nat → Nat} {n wo : Int} (k : Nat) : wo ≤ wF r n wo k := by
  induction k with
  | zero => exact Int.le_refl _
  | succ k ih => exact Int.le_trans ih (Int.le_max_left _ _)
theorem near_step {wo wo' x R p m : Int} (h : Near wo x R) (hR : 0 ≤ R) (h0 : 0 ≤ wo') (hw : wo ≤ wo') (hl : leastF p m ≤ wo') (h1 : 1 ≤ p) (h2 : p ≤ 1000) (h3 : 0 ≤ m) (h4 : m ≤ 16000) : Near wo' (x + (m - p)) (R + p) := by
  intro hb
  obtain ⟨a1, a2⟩ := h (by omega)
  have hin := within_least h1 h2 h3 h4 h0 hb
  rw [decide_eq_true hl] at hin
  obtain ⟨_, _, _, _, _, _, b1, b2⟩ := withinB_out hin
  have c := Int.mul_le_mul_of_nonneg_right hw hR
  rw [Int.mul_add wo' R p]
  generalize wo' * R = y at *
  generalize wo * R = z at *
  generalize wo' * p = u at *
  omega
theorem near_within {wo x R : Int} (h : Near wo (x - R) R) (hR : 0 ≤ R) (hR2 : R ≤ 2147483648) (hx : 0 ≤ x) (hx2 : x ≤ 2147483648) (h0 : 0 ≤ wo) (h1 : wo ≤ 1000) : withinB R x wo = true := by
  obtain ⟨a, b⟩ := h h1
  refine withinB_true ⟨hR, hR2, hx, hx2, h0, h1, a, ?_⟩
  generalize wo * R = z at *
  omega
/-- What holds from place a on. -/
def Since (nw was : Nat → Int) (ref ref0 wo : Int) : Prop := 0 ≤ ref0 ∧ ref0 ≤ ref ∧ ∀ i, i < 3 → 0 ≤ was i ∧ was i ≤ nw i ∧ Near wo (nw i - was i - (ref - ref0)) (ref - ref0)
theorem since_start {nw : Nat → Int} {ref wo : Int} (h : 0 ≤ ref) (h2 : ∀ i, i < 3 → 0 ≤ nw i) : Since nw nw ref ref wo :=
  ⟨h, Int.le_refl _, fun i hi => ⟨h2 i hi, Int.le_refl _, by
    rw [Int.sub_self, Int.sub_self, Int.sub_self]; exact near_zero wo⟩⟩
theorem since_pass {nw was : Nat → Int} {r : Nat → Nat} {ref ref0 wo p : Int} (h : Since nw was ref ref0 wo) (hr : ∀ i, r i < 18446744073709551616) (h1 : 1 ≤ p) (h2 : p ≤ 1000) (hw : 0 ≤ wo) (hw2 : wo ≤ 1001) :
    Since (fun i => nw i + mvI r p i) was (ref + p) ref0 (wF r p wo 3) := by
  obtain ⟨a, b, c⟩ := h
  refine ⟨a, by omega, fun i hi => ?_⟩
  obtain ⟨c1, c2, c3⟩ := c i hi
  have hm := mvI_bd (r := r) (n := p) (i := i) (hr i)
  refine ⟨c1, by show was i ≤ nw i + mvI r p i; omega, ?_⟩
  have := near_step c3 (by omega) (wF_bd h1 hw hw2 3).1 (wF_up 3) (wF_ge hi) h1 h2 hm.1 hm.2
  have e1 : nw i + mvI r p i - was i - (ref + p - ref0) = nw i - was i - (ref - ref0) + (mvI r p i - p) := by omega
  have e2 : ref + p - ref0 = ref - ref0 + p := by omega
  rw [e1, e2]; exact this
end Go.Proofs.Ytmlcjmgclfgbiaa
