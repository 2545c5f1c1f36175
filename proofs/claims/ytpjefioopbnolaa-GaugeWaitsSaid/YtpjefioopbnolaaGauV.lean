/- Floats where a word that is no number counts as one: sums, squares, the greatest, the grade. Plain. -/
import Derived.Test.YtpjefioopbnolaaRows
import Derived.WalkKit
import Derived.WalkSpells
import Derived.WalkLawsBesides
import Derived.Handy
import Derived.Test.YtpjefioopbnolaaMem
import Derived.Test.YtpjefioopbnolaaFl
import Derived.Test.YtpjefioopbnolaaFlRun
namespace Go.Proofs.Ytpjefioopbnolaa
open Go.RowKit
set_option linter.unusedVariables false

set_option linter.unusedSimpArgs false
open Fl
/-- A word as a value: none is no number. -/
def av (x : Nat) : Option Nat := if isN x then none else some x
def opV (op : BinOp) (o p : Option Nat) : Option Nat := match o, p with | some x, some y => floatBits op .f64 x y | _, _ => none
theorem nan_left {op : BinOp} {x y : Nat} (hop : op = .add ∨ op = .sub ∨ op = .mul ∨ op = .quo) (h : isN x = true) : floatBits op .f64 x y = none := by
  have hr : inf < rg x := by unfold isN at h; simpa using h
  rcases hop with rfl | rfl | rfl | rfl
  · show Ieee.double.add _ _ = none
    unfold Ieee.Format.add; rw [read_nan hr]; rfl
  · show Ieee.double.sub _ _ = none
    unfold Ieee.Format.sub; rw [read_nan hr]; rfl
  · show Ieee.double.mul _ _ = none
    unfold Ieee.Format.mul; rw [read_nan hr]; rfl
  · show Ieee.double.div _ _ = none
    unfold Ieee.Format.div; rw [read_nan hr]; rfl
theorem nan_right {op : BinOp} {x y : Nat} (hop : op = .add ∨ op = .sub ∨ op = .mul ∨ op = .quo) (h : isN y = true) : floatBits op .f64 x y = none := by
  have hr : inf < rg y := by unfold isN at h; simpa using h
  rcases hop with rfl | rfl | rfl | rfl
  · show Ieee.double.add _ _ = none
    unfold Ieee.Format.add; rw [read_nan hr]; cases Ieee.double.read x <;> rfl
  · show Ieee.double.sub _ _ = none
    unfold Ieee.Format.sub; rw [read_nan hr]; cases Ieee.double.read x <;> rfl
  · show Ieee.double.mul _ _ = none
    unfold Ieee.Format.mul; rw [read_nan hr]; cases Ieee.double.read x <;> rfl
  · show Ieee.double.div _ _ = none
    unfold Ieee.Format.div; rw [read_nan hr]; cases Ieee.double.read x <;> rfl
theorem fits_av {x : Nat} (h : x < 18446744073709551616) : Fits (av x) x := by
  unfold av
  rcases hn : isN x with _ | _
  · exact ⟨h, rfl⟩
  · exact ⟨h, hn⟩
/-- What an operation gives of two words that fit. -/
theorem op_fits {op : BinOp} {o p : Option Nat} {x y : Nat} (hop : op = .add ∨ op = .sub ∨ op = .mul ∨ op = .quo) (h : Fits o x) (k : Fits p y) : floatBits op .f64 x y = opV op o p := by
  cases o with
  | none => exact nan_left hop h.2
  | some a =>
    cases p with
    | none => exact nan_right hop k.2
    | some b =>
      have e1 : x = a := h.2
      have e2 : y = b := k.2
      subst e1; subst e2; rfl
/-- The sum of the first k, from the first on. -/
def SV (v : Nat → Option Nat) : Nat → Option Nat
  | 0 => some 0
  | k + 1 => if k = 0 then v 0 else opV .add (SV v k) (v k)
/-- The sum of the squares of the first k, from nought on. -/
def sqV (v : Nat → Option Nat) (k : Nat) : Option Nat := opV .mul (v k) (v k)
def QV (v : Nat → Option Nat) : Nat → Option Nat
  | 0 => some 0
  | k + 1 => opV .add (QV v k) (sqV v k)
end Go.Proofs.Ytpjefioopbnolaa
