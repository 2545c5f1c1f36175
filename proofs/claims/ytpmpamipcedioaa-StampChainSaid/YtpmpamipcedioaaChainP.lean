/- Plain laws of the chain of stamps: rates near one are floats; what is told stays within the fastest clock. -/
import Derived.Test.YtpmpamipcedioaaRows
import Derived.WalkKit
import Derived.WalkSpells
import Derived.WalkLawsBesides
import Derived.Handy
import Derived.Test.YtpmpamipcedioaaMem
import Derived.Test.YtpmpamipcedioaaRateW
import Derived.Test.YtpmpamipcedioaaFl
import Derived.Test.YtpmpamipcedioaaFlRun
import Derived.Test.YtpmpamipcedioaaMoveS
import Derived.Test.YtpmpamipcedioaaHand
import Derived.Test.YtpmpamipcedioaaStamp
namespace Go.Proofs.Ytpmpamipcedioaa
open Go.RowKit
set_option linter.unusedVariables false

set_option exponentiation.threshold 3000
open Fl
theorem word_lt (s : Bool) {r : Nat} (h : r ≤ inf) : word s r < 18446744073709551616 := by
  have hi : inf = 9218868437227405312 := rfl
  unfold word; cases s <;> simp <;> omega
theorem R1000 : floatOfInt .f64 1000 = 4652007308841189376 := by decide +kernel
theorem near_one (a : Int) (ha : a.natAbs ≤ 200) : ∃ q s, floatBits .quo .f64 (floatOfInt .f64 a) 4652007308841189376 = some q ∧ floatBits .add .f64 4607182418800017408 q = some s ∧ s < 18446744073709551616 := by
  have hB : 2 * B = 9007199254740992 := by decide
  have hi : inf = 9218868437227405312 := rfl
  have ga : rg (floatOfInt .f64 a) = ru a.natAbs := rg_ofInt a
  have gk : rg (floatOfInt .f64 1000) = ru 1000 := by rw [rg_ofInt]; rfl
  have va := ru_val (n := a.natAbs) (by omega)
  have la := ru_lt (n := a.natAbs) (by omega)
  have vk := ru_val (n := 1000) (by omega)
  have lk := ru_lt (n := 1000) (by omega)
  have k0 : ru 1000 ≠ 0 := by
    intro e
    rw [e, val_zero] at vk
    have := U_pos
    omega
  obtain ⟨r, e1, R⟩ := div_num (x := floatOfInt .f64 a) (y := floatOfInt .f64 1000) (by rw [ga]; exact la) (by rw [gk]; exact lk) (by rw [gk]; exact k0)
  rw [ga, gk, va, vk] at R
  rw [R1000] at e1
  have hr : r ≤ 4607182418800017408 := R.below _ (by omega) (by
    rw [val_R1]
    have h1 : a.natAbs * U ≤ 1000 * U := Nat.mul_le_mul_right U (by omega)
    have h2 := Nat.mul_le_mul_right U h1
    rw [Nat.mul_comm U (1000 * U)]; exact h2)
  have gq : ∀ s : Bool, rg (word s r) = r := fun s => rg_word (by omega)
  refine ⟨_, _, e1, add_num (x := 4607182418800017408) (by decide) (by rw [gq]; omega), word_lt _ (RU_le_inf _ _)⟩
theorem near_id {n : Int} (h0 : 0 ≤ n) (h1 : n ≤ 2305843009213693952) : nearF n = n := by unfold nearF; rw [if_neg (by omega), if_neg (by omega)]
theorem Blk.ne' {w : World} {g h : Nat} {t u : TypeId} {cs ds : Array Value} (h1 : Blk w g t cs) (h2 : Blk w h u ds) (hne : t ≠ u) : g ≠ h := by
  rintro rfl
  unfold Blk at h1 h2
  rw [h1] at h2
  injection h2 with h2
  injection h2 with _ h2
  exact hne h2
/-- What holds of a stamp, its leader's clock c, the time, what passed by most (in thousandths). -/
def Chain (b f t time c Y : Int) : Prop := 0 ≤ b ∧ b ≤ 1000000 ∧ 0 ≤ f ∧ f ≤ c ∧ 0 ≤ t ∧ t ≤ time ∧ (t = time ∨ b = time) ∧ 1000 * (b + (c - f)) ≤ Y ∧ 1000 * time ≤ Y ∧ 0 ≤ time
theorem chain_move {b f t time c c' Y Y' : Int} (h : Chain b f t time c Y) (h1 : c ≤ c') (h2 : 1000 * (c' - c) ≤ Y' - Y) (h3 : Y ≤ Y') : Chain b f t time c' Y' := by
  unfold Chain at *; omega
theorem chain_new {b f t time c c' Y : Int} (h : Chain b f t time c Y) (h0 : 0 ≤ c') (h1 : time ≤ 1000000) : Chain time c' 0 time c' Y := by
  unfold Chain at *; omega
theorem chain_at {b f t time c Y : Int} (h : Chain b f t time c Y) (hc : c ≤ 1000000) : time ≤ atF b f t c ∧ Chain b f (atF b f t c) (atF b f t c) c Y := by
  have e : nearF c = c := near_id (by unfold Chain at h; omega) (by omega)
  have e2 : onF f c = c - f := by unfold onF; rw [e, if_neg (by unfold Chain at h; omega)]
  obtain ⟨v, hv⟩ : ∃ v, atF b f t c = v := ⟨_, rfl⟩
  have hv2 : (t < b + (c - f) → v = b + (c - f)) ∧ (¬ t < b + (c - f) → v = t) := by
    unfold atF at hv
    rw [e2] at hv
    unfold Chain at h
    constructor <;> intro hh <;> omega
  rw [hv]
  unfold Chain at *
  by_cases hh : t < b + (c - f)
  · have := hv2.1 hh; omega
  · have := hv2.2 hh; omega
/-- A move within the bound. -/
theorem move_near {n m bd : Int} (h : withinB n m bd = true) : 1000 * m ≤ (1000 + bd) * n := by
  obtain ⟨_, _, _, _, _, _, a, _⟩ := withinB_out h
  rw [Int.add_mul]
  generalize bd * n = y at *
  omega
theorem stay_near {n bd : Int} (h0 : 0 ≤ bd) (h1 : 0 ≤ n) : 1000 * n ≤ (1000 + bd) * n := by
  have := Int.mul_nonneg h0 h1
  rw [Int.add_mul]
  generalize bd * n = y at *
  omega
theorem bd_le {n bd : Int} (h0 : 0 ≤ bd) (h1 : bd ≤ 200) (h2 : 0 ≤ n) : (1000 + bd) * n ≤ 1200 * n ∧ 0 ≤ (1000 + bd) * n :=
  ⟨Int.mul_le_mul_of_nonneg_right (by omega) h2, Int.mul_nonneg (by omega) h2⟩
theorem int3 (x y z : Int) : (#[Value.int .i64 x, Value.int .i64 y, Value.int .i64 z] : Array Value) = intA (fun i => if i = 0 then x else if i = 1 then y else z) 3 := by
  apply Array.ext_getElem?
  intro j
  rw [intA_get]
  by_cases h : j < 3
  · rw [if_pos h]
    have : j = 0 ∨ j = 1 ∨ j = 2 := by omega
    rcases this with rfl | rfl | rfl <;> rfl
  · rw [if_neg h]; simp; omega
theorem int000 : (#[Value.int .i64 0, Value.int .i64 0, Value.int .i64 0] : Array Value) = intA (fun _ => 0) 3 := by
  rw [int3]; exact intA_congr (fun i _ => by by_cases a : i = 0 <;> by_cases b : i = 1 <;> simp [a, b])
end Go.Proofs.Ytpmpamipcedioaa
