/- What gauge.Waits and the document's Waits give of one request; the small functions. -/
import Derived.Test.YtpjefioopbnolaaRows
import Derived.WalkKit
import Derived.WalkSpells
import Derived.WalkLawsBesides
import Derived.Handy
import Derived.Test.YtpjefioopbnolaaMem
import Derived.Test.YtpjefioopbnolaaFl
import Derived.Test.YtpjefioopbnolaaFlRun
import Derived.Test.YtpjefioopbnolaaAlike
import Derived.Test.YtpjefioopbnolaaApp
import Derived.Test.YtpjefioopbnolaaGauV
import Derived.Test.YtpjefioopbnolaaMaxG
import Derived.Test.YtpjefioopbnolaaBits2
import Derived.Test.YtpjefioopbnolaaInf
import Derived.Test.YtpjefioopbnolaaGauS
import Derived.Test.YtpjefioopbnolaaGrade
import Derived.Test.YtpjefioopbnolaaMost
import Derived.Test.YtpjefioopbnolaaFair
import Derived.Test.YtpjefioopbnolaaAw30
namespace Go.Proofs.Ytpjefioopbnolaa
open Go.RowKit
set_option linter.unusedVariables false

open Fl
def inF (n : Int) : Bool := decide (n ≥ 0) && decide (n ≤ 2305843009213693952)
theorem within_any (n : Int) (w : World) : Calls Try.prog 35 #[.int .i64 n] w fun e w' => e = .returned (.bool (inF n)) ∧ w = w' := by
  have h : inF n = (decide (n ≥ 0) && decide (n ≤ 2305843009213693952)) := rfl
  by_cases h0 : 0 ≤ n
  · rw [decide_eq_true h0, Bool.true_and] at h
    rw [h]
    go_enter Try.func35, Try.ntmps35
    go_wp2
    go_ret
    exact ⟨rfl, rfl⟩
  · rw [decide_eq_false h0, Bool.false_and] at h
    rw [h]
    go_enter Try.func35, Try.ntmps35
    go_wp2
    go_ret
    exact ⟨rfl, rfl⟩
theorem entry_any (n : Int) (w : World) : Calls Try.prog 36 #[.int .i64 n] w fun e w' => e = .returned (.bool (inF n)) ∧ w = w' := by
  have h : inF n = (decide (n ≥ 0) && decide (n ≤ 2305843009213693952)) := rfl
  by_cases h0 : 0 ≤ n
  · rw [decide_eq_true h0, Bool.true_and] at h
    rw [h]
    go_enter Try.func36, Try.ntmps36
    go_wp2
    go_ret
    exact ⟨rfl, rfl⟩
  · rw [decide_eq_false h0, Bool.false_and] at h
    rw [h]
    go_enter Try.func36, Try.ntmps36
    go_wp2
    go_ret
    exact ⟨rfl, rfl⟩
theorem pinf_any (w : World) : Calls Try.prog 23 #[.int .i64 1] w fun e w' => e = .returned (.float .f64 9218868437227405312) ∧ w = w' := by
  have h := frombits_eq
  go_enter Try.func23, Try.ntmps23
  go_wp2
  all_goals (go_ret; exact ⟨rfl, rfl⟩)
/-- How long a request waited: none is no number. -/
def wv (s h : Int) : Option Nat := if !inF s || !inF h then none else if h = 0 then some 9218868437227405312 else if h < s then none else some (floatOfInt .f64 (h - s))
end Go.Proofs.Ytpjefioopbnolaa
