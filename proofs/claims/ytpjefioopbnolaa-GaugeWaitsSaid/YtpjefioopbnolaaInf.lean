/- The contract of math.IsInf above and below nought. -/
import Derived.Test.YtpjefioopbnolaaRows
import Derived.WalkKit
import Derived.WalkSpells
import Derived.WalkLawsBesides
import Derived.Handy
import Derived.Test.YtpjefioopbnolaaMem
import Derived.Test.YtpjefioopbnolaaFl
import Derived.Test.YtpjefioopbnolaaFlRun
namespace Go.Proofs.Ytpjefioopbnolaa
open Go.RowKit
set_option linter.unusedVariables false

open Fl
theorem isinf_up (x : Nat) (w : World) : Calls Try.prog 21 #[.float .f64 x, .int .i64 1] w fun e w' => e = .returned (.bool (flt 9218868437227405311 x)) ∧ w = w' := by
  have a1 := cmp_gt x 9218868437227405311
  generalize flt 9218868437227405311 x = b at *
  go_enter Try.func21, Try.ntmps21
  go_wp2
  all_goals (go_ret; exact ⟨rfl, rfl⟩)
theorem isinf_down (x : Nat) (hx : x < 18446744073709551616) (w : World) : Calls Try.prog 21 #[.float .f64 x, .int .i64 (-1)] w fun e w' => e = .returned (.bool (flt 9218868437227405311 (word (!sg x) (rg x)))) ∧ w = w' := by
  have a1 := cmp_gt (word (!sg x) (rg x)) 9218868437227405311
  have e2 : ∀ W : World, (Op.unary .neg (.float .f64 x)).run Try.prog W = .ok (.float .f64 (word (!sg x) (rg x))) W := fun W => run_flip (P := Try.prog) W x hx
  generalize word (!sg x) (rg x) = y at *
  generalize flt 9218868437227405311 y = b at *
  go_enter Try.func21, Try.ntmps21
  go_wp2
  all_goals (go_ret; exact ⟨rfl, rfl⟩)
end Go.Proofs.Ytpjefioopbnolaa
