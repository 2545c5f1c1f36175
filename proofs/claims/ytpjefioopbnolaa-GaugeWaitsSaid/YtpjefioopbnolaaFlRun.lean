/- Float operations in a walk: what no number is drawn, the quotient by nought, how two floats are alike. -/
import Derived.Test.YtpjefioopbnolaaRows
import Derived.WalkKit
import Derived.WalkSpells
import Derived.WalkLawsBesides
import Derived.Handy
import Derived.Test.YtpjefioopbnolaaMem
import Derived.Test.YtpjefioopbnolaaFl
namespace Go.Proofs.Ytpjefioopbnolaa
open Go.RowKit
set_option linter.unusedVariables false

open Fl
theorem run_store_float (P : Program) (w : World) (a : Addr) (m : Mode) (k : FloatKind) (b : Nat) : (store a (.float k b) m).run P w = stored P w a (.float k b) m := run_store P w a _ m rfl

/-- The bits that the tape names for a result that is no number. -/
def nanOf (w : World) (x y : Nat) : Nat := (Question.nanBits .f64 x y).cut (w.tape w.drawn (.nanBits .f64 x y))
theorem nanOf_is (w : World) (x y : Nat) : isN (nanOf w x y) = true ∧ nanOf w x y < 18446744073709551616 := by
  unfold nanOf Question.cut isN rg
  generalize w.tape w.drawn (.nanBits .f64 x y) = t
  have h : 9218868437227405312 = inf := rfl
  simp only [decide_eq_true_eq]
  have : t / 2 % (2 ^ 52 - 1) < 2 ^ 52 - 1 := Nat.mod_lt _ (by decide)
  rw [← h]
  have e1 : (2:Nat) ^ 52 = 4503599627370496 := by decide
  have e2 : (2:Nat) ^ 63 = 9223372036854775808 := by decide
  have e3 : (0x7ff0000000000000 : Nat) = 9218868437227405312 := by decide
  rw [e1] at this
  rw [e1, e2, e3]
  have h2 : t % 2 = 0 ∨ t % 2 = 1 := by omega
  generalize t / 2 % (4503599627370496 - 1) = q at *
  rcases h2 with h2 | h2 <;> rw [h2] <;> omega
theorem run_nan {P : Program} (w : World) (op : BinOp) (t : TypeId) (x y : Nat) (hop : op = .add ∨ op = .sub ∨ op = .mul ∨ op = .quo) (h : floatBits op .f64 x y = none) :
    (binOp op t (.float .f64 x) (.float .f64 y)).run P w = .ok (.float .f64 (nanOf w x y)) w.drew := by
  have hf : (Question.nanBits .f64 x y).forced = false := rfl
  rcases hop with rfl | rfl | rfl | rfl <;> simp only [floatBits] at h <;> simp [binOp, Op.floatArith, h, hf, nanOf]

/-- r is what the operation gives: its bits, or no number. -/
def Fits (o : Option Nat) (r : Nat) : Prop := r < 18446744073709551616 ∧ match o with | some q => r = q | none => isN r = true
theorem Fits.none {r : Nat} (h1 : isN r = true) (h2 : r < 18446744073709551616) : Fits none r := ⟨h2, h1⟩
theorem Fits.some {r : Nat} (h2 : r < 18446744073709551616) : Fits (some r) r := ⟨h2, rfl⟩
theorem bits_lt {op : BinOp} {x y r : Nat} (h : floatBits op .f64 x y = some r) : r < 18446744073709551616 := by
  have := floatBits_wf h
  simpa [Lit.wf] using this

/-- Are two floats alike, noughts by their signs? -/
def al (a b : Nat) : Bool := if isN a || isN b then isN a && isN b else feq a b && (!feq a 0 || (sg a == sg b))
theorem al_self (a : Nat) : al a a = true := by
  unfold al; rw [feq_self]; cases isN a <;> simp
theorem al_nan {a b : Nat} (h1 : isN a = true) (h2 : isN b = true) : al a b = true := by unfold al; rw [h1, h2]; rfl
theorem al_fits {o : Option Nat} {a b : Nat} (h1 : Fits o a) (h2 : Fits o b) : al a b = true := by
  cases o with
  | none => exact al_nan h1.2 h2.2
  | some q => rw [show a = q from h1.2, show b = q from h2.2]; exact al_self q

theorem feq_zero {a : Nat} (hn : isN a = false) : feq a 0 = decide (rg a = 0) := by
  unfold feq
  have : isN 0 = false := by decide
  rw [hn, this, key0]
  unfold key
  cases sg a <;> simp
theorem inv_zero {a : Nat} (h : rg a = 0) : floatBits .quo .f64 4607182418800017408 a = some (word (sg a) inf) := by
  show Ieee.double.div _ _ = _
  unfold Ieee.Format.div
  have h1 : rg 4607182418800017408 < inf := by decide
  have h0 : rg a < inf := by rw [h]; decide
  rw [read_num h1, read_num h0, h]
  have e1 : sg 4607182418800017408 = false := by decide
  have e2 : mag (rg 4607182418800017408) ≠ 0 := by decide
  simp only [Ieee.Datum.quotient, mag_zero, if_true]
  rw [if_neg e2, e1, Bool.false_xor]
  rfl
theorem inf_eq_inf (s t : Bool) : feq (word s inf) (word t inf) = (s == t) := by cases s <;> cases t <;> decide

/-- x - 1 -/
def dif (x : Nat) : Nat := (Ieee.double.sub x 4607182418800017408).getD 0
/-- How far x is from 1. -/
def dis (x : Nat) : Nat := rg (dif x)
theorem sub_one {x : Nat} (h : isN x = false) : floatBits .sub .f64 x 4607182418800017408 = some (dif x) ∧ dis x ≤ inf ∧ isN (dif x) = false ∧ dif x < 18446744073709551616 := by
  have hr : rg x ≤ inf := by unfold isN at h; simpa using h
  have e1 : rg 4607182418800017408 < inf := by decide
  have hw : ∀ (s : Bool) (r : Nat), r ≤ inf → Ieee.double.sub x 4607182418800017408 = some (word s r) → floatBits .sub .f64 x 4607182418800017408 = some (dif x) ∧ dis x ≤ inf ∧ isN (dif x) = false ∧ dif x < 18446744073709551616 := by
    intro s r hr e
    have ed : dif x = word s r := by unfold dif; rw [e]; rfl
    have hi : inf = 9218868437227405312 := rfl
    unfold dis isN
    rw [ed, rg_word hr]
    refine ⟨e, hr, by simp; omega, ?_⟩
    unfold word; split <;> omega
  rcases Nat.lt_or_eq_of_le hr with h1 | h1
  · exact hw _ _ (RU_le_inf _ _) (sub_num h1 e1)
  · refine hw (sg x) inf (Nat.le_refl _) ?_
    unfold Ieee.Format.sub
    rw [read_inf h1, read_num e1]
    rfl
theorem sub_nan {x : Nat} (h : isN x = true) : floatBits .sub .f64 x 4607182418800017408 = none := by
  show Ieee.double.sub _ _ = none
  have hr : inf < rg x := by unfold isN at h; simpa using h
  unfold Ieee.Format.sub
  rw [read_nan hr]
  rfl
/-- The farthest of the first n. -/
def farR (b : Nat → Nat) : Nat → Nat
  | 0 => 0
  | n + 1 => max (farR b n) (dis (b n))
theorem farR_le (b : Nat → Nat) (n : Nat) (h : ∀ i, i < n → isN (b i) = false) : farR b n ≤ inf := by
  induction n with
  | zero => exact Nat.zero_le _
  | succ n ih =>
    have h1 := ih fun i hi => h i (by omega)
    have h2 := (sub_one (h n (by omega))).2.1
    unfold farR; omega
def anyN (b : Nat → Nat) : Nat → Bool
  | 0 => false
  | n + 1 => anyN b n || isN (b n)
theorem anyN_false {b : Nat → Nat} {n : Nat} : anyN b n = false ↔ ∀ i, i < n → isN (b i) = false := by
  induction n with
  | zero => simp [anyN]
  | succ n ih =>
    rw [anyN, Bool.or_eq_false_iff, ih]
    constructor
    · rintro ⟨h1, h2⟩ i hi
      by_cases e : i = n
      · rw [e]; exact h2
      · exact h1 i (by omega)
    · intro h; exact ⟨fun i hi => h i (by omega), h n (by omega)⟩
theorem anyN_true {b : Nat → Nat} {n k : Nat} (hk : k < n) (h : isN (b k) = true) : anyN b n = true := by
  rcases hb : anyN b n with _ | _
  · have := anyN_false.1 hb k hk; rw [h] at this; cases this
  · rfl
/-- The farthest; no number where one is none. -/
def farF (b : Nat → Nat) (n : Nat) : Nat := if anyN b n then 9221120237041090561 else farR b n
/-- A slice of floats. -/
def IsFs (w : World) (a : Option Addr) (len : Nat) (f : Nat → Nat) : Prop :=
  len ≤ 9223372036854775807 ∧ (∀ i, i < len → f i < 18446744073709551616) ∧ (0 < len → ∃ b off, a = some ⟨b, off, none⟩ ∧ b < w.heap.size ∧ ∀ i, i < len → w.cell? ⟨b, off + i, none⟩ = some (.float .f64 (f i)))
theorem IsFs.kept {w w' : World} {a : Option Addr} {len : Nat} {f : Nat → Nat} (h : IsFs w a len f) (hb : w.grownBy w' none) : IsFs w' a len f := by
  refine ⟨h.1, h.2.1, fun hp => ?_⟩
  obtain ⟨b, off, e, hlt, hc⟩ := h.2.2 hp
  exact ⟨b, off, e, Nat.lt_of_lt_of_le hlt hb.size, fun i hi => keep_new hb (hc i hi)⟩

theorem flip_bits (x : Nat) (hx : x < 18446744073709551616) : Op.negFloat .f64 x = word (!sg x) (rg x) := by
  show x ^^^ 2 ^ 63 = _
  have h1 : (x ^^^ 2 ^ 63) % 2 ^ 63 = x % 2 ^ 63 := by rw [Nat.xor_mod_two_pow, Nat.mod_self, Nat.xor_zero]
  have h2 : (x ^^^ 2 ^ 63) / 2 ^ 63 = x / 2 ^ 63 ^^^ 1 := by rw [Nat.xor_div_two_pow, Nat.div_self (Nat.two_pow_pos 63)]
  have e : (2 : Nat) ^ 63 = 9223372036854775808 := by decide
  rw [e] at h1 h2 ⊢
  have hq : x / 9223372036854775808 = 0 ∨ x / 9223372036854775808 = 1 := by omega
  unfold word sg rg
  rcases hq with hq | hq
  · rw [hq] at h2 ⊢
    have : (0 ^^^ 1 : Nat) = 1 := by decide
    rw [this] at h2
    simp; omega
  · rw [hq] at h2 ⊢
    have : (1 ^^^ 1 : Nat) = 0 := by decide
    rw [this] at h2
    simp; omega
theorem run_flip {P : Program} (w : World) (x : Nat) (hx : x < 18446744073709551616) : (Op.unary .neg (.float .f64 x)).run P w = .ok (.float .f64 (word (!sg x) (rg x))) w := by
  rw [← flip_bits x hx]; rfl
theorem word_self (x : Nat) (hx : x < 18446744073709551616) : word (sg x) (rg x) = x := by
  unfold word sg rg
  have hq : x / 9223372036854775808 = 0 ∨ x / 9223372036854775808 = 1 := by omega
  rcases hq with hq | hq <;> rw [hq] <;> simp <;> omega
theorem flt_small {p q : Nat} (hp : p ≤ inf) (hq : q ≤ inf) : flt p q = decide (p < q) := by
  unfold flt
  rw [small_isN hp, small_isN hq]
  unfold key
  rw [small_sg hp, small_sg hq, small_rg hp, small_rg hq]
  simp
theorem flt_zero {x : Nat} (h : isN x = false) : flt x 0 = (sg x && decide (rg x ≠ 0)) := by
  unfold flt
  have : isN 0 = false := by decide
  rw [h, this, key0]
  unfold key
  cases sg x
  · simp
  · simp only [Bool.not_false, Bool.true_and, if_true, ne_eq]
    exact decide_eq_decide.2 (by omega)

theorem order_small {p q : Nat} (hp : p ≤ inf) (hq : q ≤ inf) : FloatKind.f64.format.order p q = some (compare (p : Int) (q : Int)) := by
  have o := order_num (x := p) (y := q) (by rw [small_rg hp]; exact hp) (by rw [small_rg hq]; exact hq)
  have kp : Fl.key p = p := by unfold Fl.key; rw [small_sg hp, small_rg hp]; rfl
  have kq : Fl.key q = q := by unfold Fl.key; rw [small_sg hq, small_rg hq]; rfl
  rw [kp, kq] at o
  exact o
theorem run_min_small {P : Program} (ts : Array TypeId) (t : TypeId) {p q : Nat} (hp : p ≤ inf) (hq : q ≤ inf) (w : World) :
    (Builtin.min_ ts t #[.float .f64 p, .float .f64 q]).run P w = .ok (.float .f64 (min p q)) w := by
  have o := order_small hp hq
  rcases Nat.lt_trichotomy p q with h | h | h
  · rw [Int.compare_eq_lt.2 (by omega)] at o
    rw [Nat.min_eq_left (by omega)]
    simp [Builtin.min_, Builtin.min2, o]
  · subst h
    rw [Int.compare_eq_eq.2 rfl] at o
    rw [Nat.min_self]
    simp [Builtin.min_, Builtin.min2, o]
  · rw [Int.compare_eq_gt.2 (by omega)] at o
    rw [Nat.min_eq_right (by omega)]
    simp [Builtin.min_, Builtin.min2, o]
theorem run_max_small {P : Program} (ts : Array TypeId) (t : TypeId) {p q : Nat} (hp : p ≤ inf) (hq : q ≤ inf) (w : World) :
    (Builtin.max_ ts t #[.float .f64 p, .float .f64 q]).run P w = .ok (.float .f64 (max p q)) w := by
  have o := order_small hp hq
  rcases Nat.lt_trichotomy p q with h | h | h
  · rw [Int.compare_eq_lt.2 (by omega)] at o
    rw [Nat.max_eq_right (by omega)]
    simp [Builtin.max_, Builtin.max2, o]
  · subst h
    rw [Int.compare_eq_eq.2 rfl] at o
    rw [Nat.max_self]
    simp [Builtin.max_, Builtin.max2, o]
  · rw [Int.compare_eq_gt.2 (by omega)] at o
    rw [Nat.max_eq_left (by omega)]
    simp [Builtin.max_, Builtin.max2, o]
theorem cl_idem {x : Nat} (h : x ≤ 4625196817309499392) : cl x = x := by
  have hi : inf = 9218868437227405312 := rfl
  have s := cl_spec x (by omega)
  have n := small_isN (p := x) (by omega)
  have k : Fl.key x = x := by unfold Fl.key; rw [small_sg (by omega), small_rg (by omega)]; rfl
  by_cases h0 : x = 0
  · subst h0; exact (s.2.2.1).2 (.inr (by rw [k]; omega))
  · rw [s.2.2.2 n (by rw [k]; omega), small_rg (by omega)]; omega
theorem mv_cl (x k : Nat) (hx : x < 18446744073709551616) : mv (cl x) k = mv x k := by
  unfold mv pr; rw [cl_idem (cl_spec x hx).1]
