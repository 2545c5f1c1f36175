/- The numbers that IEEE double words stand for: values of rungs; what +, -, *, /, order, rounding and cutting give, as plain laws. No program in sight. -/
import Derived.Test.YtpjefioopbnolaaRows
import Derived.WalkKit
import Derived.WalkSpells
import Derived.WalkLawsBesides
import Derived.Handy
import Derived.Laws.FloatArith
namespace Go.Proofs.Ytpjefioopbnolaa
open Go.RowKit
set_option linter.unusedVariables false

set_option exponentiation.threshold 3000
set_option linter.unusedSimpArgs false
namespace Fl
open Ieee

/-! rounding of n / 2^d -/
def rnd (n d : Nat) : Nat := n / 2 ^ d + (if 2 ^ d < 2 * (n % 2 ^ d) ∨ (2 ^ d = 2 * (n % 2 ^ d) ∧ n / 2 ^ d % 2 = 1) then 1 else 0)

theorem rnd_spec (n d : Nat) : 2 * n ≤ 2 ^ d * (2 * rnd n d + 1) ∧ 2 ^ d * (2 * rnd n d) ≤ 2 * n + 2 ^ d := by
  have h0 : 0 < 2 ^ d := Nat.two_pow_pos d
  have h1 := Nat.div_add_mod n (2 ^ d)
  have h2 := Nat.mod_lt n h0
  unfold rnd
  generalize 2 ^ d = G at *
  generalize n / G = q at *
  generalize n % G = r at *
  split
  · rename_i h
    have e1 : G * (2 * (q + 1) + 1) = 2 * (G * q) + 3 * G := by rw [Nat.mul_add, Nat.mul_left_comm, Nat.mul_add]; omega
    have e2 : G * (2 * (q + 1)) = 2 * (G * q) + 2 * G := by rw [Nat.mul_left_comm, Nat.mul_add]; omega
    omega
  · rename_i h
    simp only [Nat.add_zero]
    have e1 : G * (2 * q + 1) = 2 * (G * q) + G := by rw [Nat.mul_add, Nat.mul_left_comm]; omega
    have e2 : G * (2 * q) = 2 * (G * q) := by rw [Nat.mul_left_comm]
    omega

theorem rnd_le {n d c : Nat} (h : n ≤ c * 2 ^ d) : rnd n d ≤ c := by
  have h0 : 0 < 2 ^ d := Nat.two_pow_pos d
  have h1 := Nat.div_add_mod n (2 ^ d)
  have h2 := Nat.mod_lt n h0
  unfold rnd
  generalize 2 ^ d = G at *
  generalize n / G = q at *
  generalize n % G = r at *
  rcases Nat.lt_trichotomy q c with hq | hq | hq
  · split <;> omega
  · subst hq
    have : r = 0 := by rw [Nat.mul_comm] at h; omega
    subst this
    rw [if_neg (by omega)]; omega
  · have : G * c + G ≤ G * q := by rw [← Nat.mul_succ]; exact Nat.mul_le_mul_left G hq
    rw [Nat.mul_comm] at h; omega

theorem le_rnd {n d c : Nat} (h : c * 2 ^ d ≤ n) : c ≤ rnd n d := by
  have : c ≤ n / 2 ^ d := (Nat.le_div_iff_mul_le (Nat.two_pow_pos d)).2 h
  unfold rnd; omega

theorem rnd_exact (c d : Nat) : rnd (c * 2 ^ d) d = c := Nat.le_antisymm (rnd_le (Nat.le_refl _)) (le_rnd (Nat.le_refl _))

theorem rnd_zero (n : Nat) : rnd n 0 = n := by have := rnd_exact n 0; simpa using this

theorem rnd_mono {n m : Nat} (d : Nat) (h : n ≤ m) : rnd n d ≤ rnd m d := by
  have h0 : 0 < 2 ^ d := Nat.two_pow_pos d
  have hn := Nat.div_add_mod n (2 ^ d)
  have hm := Nat.div_add_mod m (2 ^ d)
  have hn2 := Nat.mod_lt n h0
  have hm2 := Nat.mod_lt m h0
  unfold rnd
  generalize 2 ^ d = G at *
  generalize n / G = q at *
  generalize n % G = r at *
  generalize m / G = q' at *
  generalize m % G = r' at *
  rcases Nat.lt_trichotomy q q' with hq | hq | hq
  · split <;> split <;> omega
  · subst hq
    split <;> split <;> omega
  · have : G * q' + G ≤ G * q := by rw [← Nat.mul_succ]; exact Nat.mul_le_mul_left G hq
    omega

theorem rnd_scale (n d j : Nat) : rnd (n * 2 ^ j) (d + j) = rnd n d := by
  have h0 : 0 < 2 ^ j := Nat.two_pow_pos j
  unfold rnd
  rw [Nat.pow_add, Nat.mul_div_mul_right _ _ h0, Nat.mul_mod_mul_right]
  have : (2 ^ d * 2 ^ j < 2 * (n % 2 ^ d * 2 ^ j) ∨ 2 ^ d * 2 ^ j = 2 * (n % 2 ^ d * 2 ^ j) ∧ n / 2 ^ d % 2 = 1) ↔ (2 ^ d < 2 * (n % 2 ^ d) ∨ 2 ^ d = 2 * (n % 2 ^ d) ∧ n / 2 ^ d % 2 = 1) := by
    rw [← Nat.mul_assoc]
    have a : 2 ^ d * 2 ^ j < 2 * (n % 2 ^ d) * 2 ^ j ↔ 2 ^ d < 2 * (n % 2 ^ d) := Nat.mul_lt_mul_right h0
    have b : 2 ^ d * 2 ^ j = 2 * (n % 2 ^ d) * 2 ^ j ↔ 2 ^ d = 2 * (n % 2 ^ d) := Nat.mul_right_cancel_iff h0
    rw [a, b]
  simp only [this]

theorem cut_even (neg : Bool) (n d : Nat) : Toward.even.cut neg n d = rnd n d := by
  unfold Toward.cut
  simp only [Nat.shiftLeft_eq, Nat.one_mul]
  by_cases hd : d ≤ n.log2 + 2
  · rw [Nat.min_eq_left hd]
    unfold rnd
    congr 1
    generalize 2 ^ d = G
    by_cases a : G < 2 * (n % G)
    · simp [a]
    · by_cases b : G = 2 * (n % G) ∧ n / G % 2 = 1
      · simp [b.1.symm, b.2]
      · rw [if_neg (by omega)]
        by_cases c : G = 2 * (n % G)
        · have : n / G % 2 ≠ 1 := fun h => b ⟨c, h⟩
          simp [a, this]
        · simp [a, c]
  · have hd' : n.log2 + 2 ≤ d := by omega
    rw [Nat.min_eq_right hd']
    have h1 : n < 2 ^ (n.log2 + 1) := Nat.lt_log2_self
    have h2 : 2 ^ (n.log2 + 2) = 2 * 2 ^ (n.log2 + 1) := by rw [Nat.pow_succ, Nat.mul_comm]
    have h3 : 2 ^ (n.log2 + 2) ≤ 2 ^ d := Nat.pow_le_pow_right (by omega) hd'
    unfold rnd
    rw [Nat.div_eq_of_lt (a := n) (b := 2 ^ (n.log2 + 2)) (by omega), Nat.mod_eq_of_lt (a := n) (b := 2 ^ (n.log2 + 2)) (by omega),
      Nat.div_eq_of_lt (a := n) (b := 2 ^ d) (by omega), Nat.mod_eq_of_lt (a := n) (b := 2 ^ d) (by omega)]
    rw [if_neg (by omega)]
    simp
    omega

theorem log2_mul_pow {n : Nat} (h : n ≠ 0) (k : Nat) : (n * 2 ^ k).log2 = n.log2 + k := by
  have h0 : 0 < 2 ^ k := Nat.two_pow_pos k
  have hne : n * 2 ^ k ≠ 0 := Nat.mul_ne_zero h (by omega)
  apply Nat.le_antisymm
  · have : n * 2 ^ k < 2 ^ (n.log2 + k + 1) := by
      have := Nat.mul_lt_mul_of_pos_right (Nat.lt_log2_self (n := n)) h0
      have e : 2 ^ (n.log2 + 1) * 2 ^ k = 2 ^ (n.log2 + k + 1) := by rw [← Nat.pow_add]; congr 1; omega
      omega
    have := (Nat.log2_lt hne).2 this
    omega
  · refine (Nat.le_log2 hne).2 ?_
    rw [Nat.pow_add]
    exact Nat.mul_le_mul_right _ (Nat.log2_self_le h)

theorem log2_mono {a b : Nat} (h : a ≤ b) : a.log2 ≤ b.log2 := by
  by_cases ha : a = 0
  · subst ha; simp
  · exact (Nat.le_log2 (by omega)).2 (Nat.le_trans (Nat.log2_self_le ha) h)

/-! rungs -/
def B : Nat := 4503599627370496
def inf : Nat := 9218868437227405312
theorem B_eq : B = 2 ^ 52 := by decide
theorem inf_eq : inf = 2047 * B := by decide

/-- The rung of M * 2 ^ (-1074 - D). -/
def RU (M D : Nat) : Nat := min ((M.log2 - (52 + D)) * B + rnd M (M.log2 - (52 + D) + D)) inf

def mag (r : Nat) : Nat := if r < B then r else B + r % B
def up (r : Nat) : Nat := r / B - 1
/-- The value of a rung in units of the least place. -/
def val (r : Nat) : Nat := mag r * 2 ^ up r

theorem RU_le_inf (M D : Nat) : RU M D ≤ inf := Nat.min_le_right ..

theorem lt_pow_kept (M D : Nat) : M < 2 ^ (53 + (M.log2 - (52 + D) + D)) := by
  have := Nat.lt_log2_self (n := M)
  exact Nat.lt_of_lt_of_le this (Nat.pow_le_pow_right (by omega) (by omega))

theorem kept_le (M D : Nat) : rnd M (M.log2 - (52 + D) + D) ≤ 2 * B := by
  apply rnd_le
  have := lt_pow_kept M D
  rw [Nat.pow_add] at this
  rw [B_eq]
  have e : 2 * 2 ^ 52 = 2 ^ 53 := by decide
  rw [e]; omega

theorem kept_ge (M D : Nat) (h : 52 + D < M.log2) : B ≤ rnd M (M.log2 - (52 + D) + D) := by
  apply le_rnd
  have hM : M ≠ 0 := by intro h'; subst h'; simp at h
  have := Nat.log2_self_le hM
  rw [B_eq, ← Nat.pow_add]
  have e : 52 + (M.log2 - (52 + D) + D) = M.log2 := by omega
  rw [e]; exact this

theorem RU_mono {M M' : Nat} (D : Nat) (h : M ≤ M') : RU M D ≤ RU M' D := by
  have hl := log2_mono h
  unfold RU
  refine Nat.le_min.2 ⟨Nat.le_trans (Nat.min_le_left ..) ?_, Nat.min_le_right ..⟩
  by_cases he : M.log2 - (52 + D) = M'.log2 - (52 + D)
  · rw [he]; exact Nat.add_le_add_left (rnd_mono _ h) _
  · have h1 := kept_le M D
    have h2 := kept_ge M' D (by omega)
    have h3 : M.log2 - (52 + D) + 1 ≤ M'.log2 - (52 + D) := by omega
    have h4 := Nat.mul_le_mul_right B h3
    rw [Nat.add_mul, Nat.one_mul] at h4
    omega

theorem RU_zero (D : Nat) : RU 0 D = 0 := by
  have := rnd_le (n := 0) (d := 0 - (52 + D) + D) (c := 0) (by simp)
  unfold RU
  simp at this ⊢
  omega

theorem B_pos : 0 < B := by decide

theorem val_exact {s : Nat} (h : s ≤ inf) (D : Nat) : RU (val s * 2 ^ D) D = s := by
  unfold val mag up
  by_cases hs : s < B
  · rw [if_pos hs, Nat.div_eq_of_lt hs]
    by_cases h0 : s = 0
    · subst h0; simp [RU_zero]
    · have e : s * 2 ^ (0 - 1) * 2 ^ D = s * 2 ^ D := by simp
      rw [e]
      have hl : s.log2 < 52 := by
        refine (Nat.log2_lt h0).2 ?_
        rw [← B_eq]; exact hs
      unfold RU
      rw [log2_mul_pow h0]
      have e2 : s.log2 + D - (52 + D) = 0 := by omega
      rw [e2, Nat.zero_mul, Nat.zero_add, Nat.zero_add, rnd_exact]
      exact Nat.min_eq_left h
  · rw [if_neg hs]
    have hm : s % B < B := Nat.mod_lt _ B_pos
    have hd := Nat.div_add_mod s B
    have hq : 1 ≤ s / B := (Nat.le_div_iff_mul_le B_pos).2 (by omega)
    have hne : B + s % B ≠ 0 := by have := B_pos; omega
    have hl : (B + s % B).log2 = 52 := by
      refine (Nat.log2_eq_iff hne).2 ⟨?_, ?_⟩
      · rw [← B_eq]; omega
      · have : 2 ^ (52 + 1) = 2 * B := by decide
        omega
    rw [Nat.mul_assoc, ← Nat.pow_add]
    unfold RU
    rw [log2_mul_pow hne, hl]
    have e2 : 52 + (s / B - 1 + D) - (52 + D) = s / B - 1 := by omega
    rw [e2, rnd_exact]
    have : (s / B - 1) * B + (B + s % B) = s := by
      have : (s / B - 1) * B + B = s / B * B := by rw [← Nat.succ_mul]; congr 1; omega
      rw [Nat.mul_comm] at hd; omega
    rw [this]; exact Nat.min_eq_left h

theorem val_lt {s t : Nat} (h : s < t) (ht : t ≤ inf) : val s < val t := by
  apply Nat.lt_of_not_le
  intro hle
  have := RU_mono 0 (Nat.mul_le_mul_right (2 ^ 0) hle)
  rw [val_exact ht, val_exact (by omega)] at this
  omega

theorem val_le {s t : Nat} (h : s ≤ t) (ht : t ≤ inf) : val s ≤ val t := by
  rcases Nat.eq_or_lt_of_le h with rfl | h
  · exact Nat.le_refl _
  · exact Nat.le_of_lt (val_lt h ht)

theorem RU_le {M D b : Nat} (hb : b ≤ inf) (h : M ≤ val b * 2 ^ D) : RU M D ≤ b := by
  have := RU_mono D h
  rwa [val_exact hb] at this

theorem le_RU {M D b : Nat} (hb : b ≤ inf) (h : val b * 2 ^ D ≤ M) : b ≤ RU M D := by
  have := RU_mono D h
  rwa [val_exact hb] at this

/-- Every number of at most 53 digits is the value of a rung. -/
theorem exists_val (E : Nat) : ∀ m, m < 2 * B → E ≤ 2045 → ∃ b, b < inf ∧ val b = m * 2 ^ E := by
  induction E with
  | zero =>
    intro m hm _
    refine ⟨m, by have : inf = 2047 * B := inf_eq; omega, ?_⟩
    unfold val mag up
    split
    · rename_i h; rw [Nat.div_eq_of_lt h]
    · rename_i h
      have h1 : m / B = 1 := by
        have := B_pos
        refine Nat.div_eq_of_lt_le (by omega) (by omega)
      have := Nat.div_add_mod m B
      rw [h1] at this ⊢
      simp only [Nat.sub_self]
      congr 1
  | succ E ih =>
    intro m hm hE
    by_cases h : m < B
    · obtain ⟨b, hb, e⟩ := ih (2 * m) (by omega) (by omega)
      refine ⟨b, hb, ?_⟩
      rw [e, Nat.pow_succ, Nat.mul_comm 2 m, Nat.mul_assoc, Nat.mul_comm 2]
    · refine ⟨(E + 1) * B + m, ?_, ?_⟩
      · have : inf = 2047 * B := inf_eq
        have h2 := Nat.mul_le_mul_right B hE
        omega
      · have hq : ((E + 1) * B + m) / B = E + 2 := by
          refine Nat.div_eq_of_lt_le ?_ ?_
          · rw [Nat.add_mul, Nat.add_mul]; omega
          · rw [Nat.add_mul, Nat.add_mul, Nat.add_mul]; omega
        have hr : ((E + 1) * B + m) % B = m - B := by
          have := Nat.div_add_mod ((E + 1) * B + m) B
          rw [hq] at this
          have e : B * (E + 2) = (E + 1) * B + B := by rw [Nat.mul_comm, Nat.add_mul, Nat.add_mul]; omega
          omega
        unfold val mag up
        rw [hq, hr, if_neg (by have := B_pos; rw [Nat.add_mul]; omega)]
        have e2 : B + (m - B) = m := by omega
        rw [e2]; rfl

theorem RU_val {m E : Nat} (hm : m < 2 * B) (hE : E ≤ 2045) (D : Nat) : RU (m * 2 ^ E * 2 ^ D) D < inf ∧ val (RU (m * 2 ^ E * 2 ^ D) D) = m * 2 ^ E := by
  obtain ⟨b, hb, e⟩ := exists_val E m hm hE
  rw [← e, val_exact (Nat.le_of_lt hb)]
  exact ⟨hb, rfl⟩

end Fl

namespace Fl
open Ieee
/-! words -/
def sg (x : Nat) : Bool := x / 9223372036854775808 % 2 == 1
def rg (x : Nat) : Nat := x % 9223372036854775808
def word (neg : Bool) (r : Nat) : Nat := if neg then 9223372036854775808 + r else r

theorem sw : Ieee.double.signWeight = 9223372036854775808 := by decide
theorem bw : Ieee.double.binade = B := by decide
theorem iw : Ieee.double.infRung = inf := by decide
theorem lw : Ieee.double.leastPlace = -1074 := by decide
theorem fw : Ieee.double.fractionBits = 52 := rfl

theorem dword (neg : Bool) (r : Nat) : Ieee.double.word neg r = word neg r := by
  unfold Format.word word; rw [sw]

theorem sg_word {neg : Bool} {r : Nat} (h : r ≤ inf) : sg (word neg r) = neg := by
  have hi : inf = 9218868437227405312 := rfl
  unfold sg word
  cases neg
  · simp; omega
  · simp; omega

theorem rg_word {neg : Bool} {r : Nat} (h : r ≤ inf) : rg (word neg r) = r := by
  have hi : inf = 9218868437227405312 := rfl
  unfold rg word
  cases neg
  · simp; omega
  · simp; omega

theorem read_num {x : Nat} (h : rg x < inf) : Ieee.double.read x = .number (sg x) (mag (rg x)) (-1074 + (up (rg x) : Nat)) := by
  unfold Format.read
  rw [sw, bw, iw, lw]
  show (if rg x < B then Datum.number (sg x) (rg x) (-1074) else if rg x < inf then Datum.number (sg x) (B + rg x % B) (-1074 + ((rg x / B - 1 : Nat) : Int)) else _) = _
  unfold mag up
  by_cases hb : rg x < B
  · rw [if_pos hb, if_pos hb, Nat.div_eq_of_lt hb]; rfl
  · rw [if_neg hb, if_pos h, if_neg hb]

theorem read_inf {x : Nat} (h : rg x = inf) : Ieee.double.read x = .infinity (sg x) := by
  unfold Format.read
  rw [sw, bw, iw, lw]
  show (if rg x < B then Datum.number (sg x) (rg x) (-1074) else if rg x < inf then _ else if rg x = inf then Datum.infinity (sg x) else _) = _
  have : B < inf := by decide
  rw [if_neg (by omega), if_neg (by omega), if_pos h]

theorem read_nan {x : Nat} (h : inf < rg x) : Ieee.double.read x = .nan (sg x) (rg x - inf) := by
  unfold Format.read
  rw [sw, bw, iw, lw]
  show (if rg x < B then Datum.number (sg x) (rg x) (-1074) else if rg x < inf then _ else if rg x = inf then Datum.infinity (sg x) else Datum.nan (sg x) (rg x - inf)) = _
  have : B < inf := by decide
  rw [if_neg (by omega), if_neg (by omega), if_neg (by omega)]

theorem nearest_eq (neg : Bool) (m : Nat) (p : Int) (k D : Nat) (h : p = -1074 + k - D) : Ieee.double.nearest neg m p = word neg (RU (m * 2 ^ k) D) := by
  unfold Format.nearest
  rw [fw, bw, iw, lw]
  by_cases hm : m = 0
  · subst hm
    rw [if_pos rfl, Nat.zero_mul, RU_zero, dword]
  · rw [if_neg hm]
    dsimp only
    rw [dword, cut_even]
    have e : RU (m * 2 ^ k) D = min ((max (p + (m.log2 : Int) - (52 : Nat)) (-1074) - -1074).toNat * B + rnd (m <<< (p - max (p + (m.log2 : Int) - (52 : Nat)) (-1074)).toNat) (max (p + (m.log2 : Int) - (52 : Nat)) (-1074) - p).toNat) inf := by
      unfold RU
      rw [log2_mul_pow hm]
      have a1 : (max (p + (m.log2 : Int) - (52 : Nat)) (-1074) - -1074).toNat = m.log2 + k - (52 + D) := by omega
      have a2 : (p - max (p + (m.log2 : Int) - (52 : Nat)) (-1074)).toNat = k - (m.log2 + k - (52 + D) + D) := by omega
      have a3 : (max (p + (m.log2 : Int) - (52 : Nat)) (-1074) - p).toNat = (m.log2 + k - (52 + D) + D) - k := by omega
      rw [a1, a2, a3, Nat.shiftLeft_eq]
      generalize m.log2 + k - (52 + D) + D = t
      congr 2
      by_cases ht : k ≤ t
      · have : k - t = 0 := by omega
        rw [this]
        have := rnd_scale m (t - k) k
        have e : t - k + k = t := by omega
        rw [e] at this
        simpa using this
      · have : t - k = 0 := by omega
        rw [this, rnd_zero]
        have e : m * 2 ^ k = m * 2 ^ (k - t) * 2 ^ t := by rw [Nat.mul_assoc, ← Nat.pow_add]; congr 2; omega
        rw [e, rnd_exact]
    rw [e]

def isN (x : Nat) : Bool := decide (inf < rg x)

/-- The signed value in units of the least place. -/
def sv (x : Nat) : Int := if sg x then -(val (rg x) : Nat) else (val (rg x) : Nat)
def key (x : Nat) : Int := if sg x then -(rg x : Nat) else (rg x : Nat)

theorem write_num (neg : Bool) (m : Nat) (p : Int) : Ieee.double.write (.number neg m p) = Ieee.double.nearest neg m p := rfl

theorem mul_num {x y : Nat} (hx : rg x < inf) (hy : rg y < inf) : Ieee.double.mul x y = some (word (sg x ^^ sg y) (RU (val (rg x) * val (rg y)) 1074)) := by
  unfold Format.mul
  rw [read_num hx, read_num hy]
  simp only [Datum.product, Option.map_some, write_num]
  rw [nearest_eq _ _ _ (up (rg x) + up (rg y)) 1074 (by omega)]
  have : mag (rg x) * mag (rg y) * 2 ^ (up (rg x) + up (rg y)) = val (rg x) * val (rg y) := by
    unfold val
    rw [Nat.pow_add]; simp only [Nat.mul_assoc, Nat.mul_left_comm]
  rw [this]

theorem signed_mul (s : Bool) (m a b : Nat) : signed s m a * (2 ^ b : Nat) = if s then -((m * 2 ^ (a + b) : Nat) : Int) else ((m * 2 ^ (a + b) : Nat) : Int) := by
  unfold signed
  rw [Nat.shiftLeft_eq, Nat.pow_add, ← Nat.mul_assoc]
  split
  · rw [Int.neg_mul, ← Int.natCast_mul]
  · rw [← Int.natCast_mul]

theorem sum_num (s t : Bool) (m n i j : Nat) :
    ((Datum.number s m (-1074 + (i : Nat))).sum (Datum.number t n (-1074 + (j : Nat)))).map Ieee.double.write
     = some (word (if (if s then -((m * 2 ^ i : Nat) : Int) else ((m * 2 ^ i : Nat) : Int)) + (if t then -((n * 2 ^ j : Nat) : Int) else ((n * 2 ^ j : Nat) : Int)) = 0 then s && t
        else decide ((if s then -((m * 2 ^ i : Nat) : Int) else ((m * 2 ^ i : Nat) : Int)) + (if t then -((n * 2 ^ j : Nat) : Int) else ((n * 2 ^ j : Nat) : Int)) < 0))
        (RU ((if s then -((m * 2 ^ i : Nat) : Int) else ((m * 2 ^ i : Nat) : Int)) + (if t then -((n * 2 ^ j : Nat) : Int) else ((n * 2 ^ j : Nat) : Int))).natAbs 0)) := by
  simp only [Datum.sum, Option.map_some, write_num]
  have b : min (-1074 + (i : Int)) (-1074 + (j : Int)) = -1074 + (min i j : Nat) := by omega
  rw [b]
  have b1 : (-1074 + (i : Int) - (-1074 + (min i j : Nat))).toNat = i - min i j := by omega
  have b2 : (-1074 + (j : Int) - (-1074 + (min i j : Nat))).toNat = j - min i j := by omega
  rw [b1, b2]
  have e1 := signed_mul s m (i - min i j) (min i j)
  have e2 := signed_mul t n (j - min i j) (min i j)
  rw [show i - min i j + min i j = i by omega] at e1
  rw [show j - min i j + min i j = j by omega] at e2
  rw [← e1, ← e2, ← Int.add_mul]
  generalize signed s m (i - min i j) + signed t n (j - min i j) = T
  have hp : 0 < (2 ^ min i j : Nat) := Nat.two_pow_pos _
  clear e1 e2 b b1 b2
  generalize min i j = u at hp ⊢
  rw [nearest_eq _ _ _ u 0 (by omega)]
  have goal : ∀ a b a' b', a = a' → b = b' → some (word a (RU b 0)) = some (word a' (RU b' 0)) := by intro _ _ _ _ h1 h2; rw [h1, h2]
  refine goal _ _ _ _ ?_ ?_
  · have h1 : T * (2 ^ u : Nat) = 0 ↔ T = 0 := by
      rw [Int.mul_eq_zero]; omega
    have h2 : T * (2 ^ u : Nat) < 0 ↔ T < 0 := by
      have := Int.mul_lt_mul_right (a := ((2 ^ u : Nat) : Int)) (b := T) (c := 0) (by omega)
      rwa [Int.zero_mul] at this
    simp only [h1, h2]
  · rw [Int.natAbs_mul, Int.natAbs_natCast]

theorem add_num {x y : Nat} (hx : rg x < inf) (hy : rg y < inf) : Ieee.double.add x y = some (word (if sv x + sv y = 0 then sg x && sg y else decide (sv x + sv y < 0)) (RU (sv x + sv y).natAbs 0)) := by
  unfold Format.add
  rw [read_num hx, read_num hy]
  exact sum_num ..

theorem sub_num {x y : Nat} (hx : rg x < inf) (hy : rg y < inf) : Ieee.double.sub x y = some (word (if sv x - sv y = 0 then sg x && !sg y else decide (sv x - sv y < 0)) (RU (sv x - sv y).natAbs 0)) := by
  unfold Format.sub
  rw [read_num hx, read_num hy]
  have := sum_num (sg x) (!sg y) (mag (rg x)) (mag (rg y)) (up (rg x)) (up (rg y))
  have e : sv x - sv y = sv x + (if !sg y then -((mag (rg y) * 2 ^ up (rg y) : Nat) : Int) else ((mag (rg y) * 2 ^ up (rg y) : Nat) : Int)) := by
    unfold sv val
    cases sg y <;> simp <;> omega
  rw [e]
  exact this

theorem compare_congr {a b c d : Int} (h1 : a < b ↔ c < d) (h2 : a = b ↔ c = d) : compare a b = compare c d := by
  show compareOfLessAndEq a b = compareOfLessAndEq c d
  unfold compareOfLessAndEq
  simp only [h1, h2]

theorem val_lt_iff {s t : Nat} (hs : s ≤ inf) (ht : t ≤ inf) : val s < val t ↔ s < t := by
  constructor
  · intro h; apply Nat.lt_of_not_le; intro h'; have := val_le h' hs; omega
  · intro h; exact val_lt h ht
theorem val_zero : val 0 = 0 := by decide
theorem val_eq_iff {s t : Nat} (hs : s ≤ inf) (ht : t ≤ inf) : val s = val t ↔ s = t := by
  have h1 := val_lt_iff hs ht
  have h2 := val_lt_iff ht hs
  omega

theorem order_num {x y : Nat} (hx : rg x ≤ inf) (hy : rg y ≤ inf) : Ieee.double.order x y = some (compare (key x) (key y)) := by
  unfold Format.order
  have hip : 0 < inf := by decide
  rcases Nat.lt_or_ge (rg x) inf with hx' | hx'
  · rcases Nat.lt_or_ge (rg y) inf with hy' | hy'
    · rw [read_num hx', read_num hy']
      simp only [Datum.order]
      generalize hi : up (rg x) = i
      generalize hj : up (rg y) = j
      have b : min (-1074 + (i : Int)) (-1074 + (j : Int)) = -1074 + (min i j : Nat) := by omega
      rw [b]
      have b1 : (-1074 + (i : Int) - (-1074 + (min i j : Nat))).toNat = i - min i j := by omega
      have b2 : (-1074 + (j : Int) - (-1074 + (min i j : Nat))).toNat = j - min i j := by omega
      rw [b1, b2]
      have e1 := signed_mul (sg x) (mag (rg x)) (i - min i j) (min i j)
      have e2 := signed_mul (sg y) (mag (rg y)) (j - min i j) (min i j)
      rw [show i - min i j + min i j = i by omega] at e1
      rw [show j - min i j + min i j = j by omega] at e2
      have v1 : mag (rg x) * 2 ^ i = val (rg x) := by subst hi; rfl
      have v2 : mag (rg y) * 2 ^ j = val (rg y) := by subst hj; rfl
      rw [v1] at e1
      rw [v2] at e2
      have hp : 0 < (2 ^ min i j : Nat) := Nat.two_pow_pos _
      have l1 := val_lt_iff hx hy
      have l2 := val_lt_iff hy hx
      have l3 := val_lt_iff (Nat.zero_le inf) hx
      have l4 := val_lt_iff (Nat.zero_le inf) hy
      rw [val_zero] at l3 l4
      congr 1
      refine compare_congr ?_ ?_
      · rw [← Int.mul_lt_mul_right (a := ((2 ^ min i j : Nat) : Int)) (by omega), e1, e2]
        unfold key
        cases sg x <;> cases sg y <;> simp only [Bool.false_eq_true, if_true, if_false] <;> omega
      · have : signed (sg x) (mag (rg x)) (i - min i j) = signed (sg y) (mag (rg y)) (j - min i j) ↔ signed (sg x) (mag (rg x)) (i - min i j) * ((2 ^ min i j : Nat) : Int) = signed (sg y) (mag (rg y)) (j - min i j) * ((2 ^ min i j : Nat) : Int) := by
          constructor
          · intro h; rw [h]
          · intro h; exact Int.eq_of_mul_eq_mul_right (by omega) h
        rw [this, e1, e2]
        unfold key
        cases sg x <;> cases sg y <;> simp only [Bool.false_eq_true, if_true, if_false] <;> omega
    · have hy2 : rg y = inf := by omega
      rw [read_num hx', read_inf hy2]
      simp only [Datum.order]
      unfold key
      rw [hy2]
      congr 1
      cases sg x <;> cases sg y <;> simp only [Bool.false_eq_true, if_true, if_false] <;> symm <;>
        first | exact Int.compare_eq_lt.2 (by omega) | exact Int.compare_eq_gt.2 (by omega)
  · have hx2 : rg x = inf := by omega
    rcases Nat.lt_or_ge (rg y) inf with hy' | hy'
    · rw [read_inf hx2, read_num hy']
      simp only [Datum.order]
      unfold key
      rw [hx2]
      congr 1
      cases sg x <;> cases sg y <;> simp only [Bool.false_eq_true, if_true, if_false] <;> symm <;>
        first | exact Int.compare_eq_lt.2 (by omega) | exact Int.compare_eq_gt.2 (by omega)
    · have hy2 : rg y = inf := by omega
      rw [read_inf hx2, read_inf hy2]
      simp only [Datum.order]
      unfold key
      rw [hx2, hy2]
      cases sg x <;> cases sg y <;> decide

theorem order_nan {x y : Nat} (h : inf < rg x ∨ inf < rg y) : Ieee.double.order x y = none := by
  unfold Format.order
  rcases h with h | h
  · rw [read_nan h]; rfl
  · rw [read_nan h]; cases Ieee.double.read x <;> rfl
end Fl

namespace Fl
open Ieee

/-- One, in units of the least place. -/
def U : Nat := 2 ^ 1074
theorem U_eq : U = 2 ^ 1074 := by unfold U; rfl
theorem U_pos : 0 < U := by rw [U_eq]; exact Nat.two_pow_pos _
attribute [irreducible] U

theorem word_false (r : Nat) : word false r = r := rfl

theorem RU_scale (M D j : Nat) : RU (M * 2 ^ j) (D + j) = RU M D := by
  by_cases h : M = 0
  · subst h; rw [Nat.zero_mul, RU_zero, RU_zero]
  · unfold RU
    rw [log2_mul_pow h]
    have e : M.log2 + j - (52 + (D + j)) = M.log2 - (52 + D) := by omega
    rw [e]
    have := rnd_scale M (M.log2 - (52 + D) + D) j
    rw [show M.log2 - (52 + D) + (D + j) = M.log2 - (52 + D) + D + j by omega, this]

/-- The rung r is num / den (in units of the least place), rounded. -/
structure Rounds (r num den : Nat) : Prop where
  top : r ≤ inf
  below : ∀ b, b ≤ inf → num ≤ val b * den → r ≤ b
  above : ∀ b, b ≤ inf → val b * den ≤ num → b ≤ r

theorem RU_rounds (M D : Nat) : Rounds (RU M D) M (2 ^ D) := ⟨RU_le_inf _ _, fun _ hb h => RU_le hb h, fun _ hb h => le_RU hb h⟩

theorem mag_lt (r : Nat) : mag r < 2 * B := by
  have := Nat.mod_lt r B_pos
  unfold mag
  split <;> omega

/-- The quotient of the model, with its sticky digit. -/
theorem quot_rounds (m i n j : Nat) (hn : n ≠ 0) (more : Nat) (hmore : more = 54 + n.log2 - m.log2) (hm : m ≠ 0) :
    Rounds (RU ((2 * (m <<< more / n) + (m <<< more % n != 0).toNat) * 2 ^ (i + 1074)) (j + more + 1)) (m * 2 ^ i * 2 ^ 1074) (n * 2 ^ j) := by
  have hn0 : 0 < n := by omega
  rw [Nat.shiftLeft_eq]
  have hd : n * 2 ^ 53 ≤ m * 2 ^ more := by
    have h1 := Nat.log2_self_le hm
    have h2 := Nat.lt_log2_self (n := n)
    have h3 : 2 ^ (54 + n.log2) ≤ m * 2 ^ more := by
      refine Nat.le_trans ?_ (Nat.mul_le_mul_right _ h1)
      rw [← Nat.pow_add]
      exact Nat.pow_le_pow_right (by omega) (by omega)
    have h4 : n * 2 ^ 53 ≤ 2 ^ (n.log2 + 1) * 2 ^ 53 := Nat.mul_le_mul_right _ (by omega)
    rw [← Nat.pow_add] at h4
    rw [show n.log2 + 1 + 53 = 54 + n.log2 by omega] at h4
    omega
  have hdm := Nat.div_add_mod (m * 2 ^ more) n
  have hml := Nat.mod_lt (m * 2 ^ more) hn0
  have hq53 : 2 ^ 53 ≤ m * 2 ^ more / n := (Nat.le_div_iff_mul_le hn0).2 (by rw [Nat.mul_comm]; exact hd)
  have B2 : 2 * B = 2 ^ 53 := by decide
  -- the test of the left-over
  obtain ⟨st, hst⟩ : ∃ st, (m * 2 ^ more % n != 0).toNat = st := ⟨_, rfl⟩
  have hst2 : (m * 2 ^ more % n = 0 ∧ st = 0) ∨ (m * 2 ^ more % n ≠ 0 ∧ st = 1) := by
    by_cases h : m * 2 ^ more % n = 0
    · left; refine ⟨h, ?_⟩; rw [← hst, h]; rfl
    · right; refine ⟨h, ?_⟩; rw [← hst]; simp [h]
  rw [hst]
  have scale : m * 2 ^ i * 2 ^ 1074 * 2 ^ (more + 1) = 2 * (m * 2 ^ more) * 2 ^ (i + 1074) := by
    rw [Nat.pow_add 2 more 1, Nat.pow_add 2 i 1074]
    simp only [Nat.pow_one, Nat.mul_assoc, Nat.mul_left_comm, Nat.mul_comm]
  generalize hX : m * 2 ^ more = X at *
  generalize hQ : X / n = Q at *
  generalize hR : X % n = R at *
  refine ⟨RU_le_inf _ _, ?_, ?_⟩
  · intro b hb h
    refine RU_le hb ?_
    have h' := Nat.mul_le_mul_right (2 ^ (more + 1)) h
    rw [scale] at h'
    have e2 : val b * (n * 2 ^ j) * 2 ^ (more + 1) = mag b * 2 ^ (up b + (j + more + 1)) * n := by
      unfold val
      rw [show up b + (j + more + 1) = up b + j + (more + 1) by omega, Nat.pow_add 2 (up b + j), Nat.pow_add 2 (up b)]
      simp only [Nat.mul_assoc, Nat.mul_left_comm, Nat.mul_comm]
    rw [e2] at h'
    have e3 : val b * 2 ^ (j + more + 1) = mag b * 2 ^ (up b + (j + more + 1)) := by
      unfold val; rw [Nat.pow_add 2 (up b), Nat.mul_assoc]
    rw [e3]
    generalize up b + (j + more + 1) = t at *
    have hmb := mag_lt b
    generalize mag b = s at *
    generalize i + 1074 = K at *
    have hK : 0 < 2 ^ K := Nat.two_pow_pos K
    by_cases ht : K + 1 ≤ t
    · have e4 : 2 ^ t = 2 ^ (t - K - 1) * 2 * 2 ^ K := by
        rw [← Nat.pow_succ, ← Nat.pow_add]; congr 1; omega
      rw [e4] at h' ⊢
      generalize 2 ^ (t - K - 1) = C at *
      have h5 : 2 * X ≤ s * (C * 2) * n := by
        refine Nat.le_of_mul_le_mul_right ?_ hK
        refine Nat.le_trans h' (Nat.le_of_eq ?_)
        simp only [Nat.mul_assoc, Nat.mul_left_comm, Nat.mul_comm]
      have h6 : X ≤ s * C * n := by
        have : s * (C * 2) * n = 2 * (s * C * n) := by simp only [Nat.mul_assoc, Nat.mul_left_comm, Nat.mul_comm]
        omega
      have h7 : 2 * Q + st ≤ s * (C * 2) := by
        have e8 : s * (C * 2) = 2 * (s * C) := by simp only [Nat.mul_assoc, Nat.mul_left_comm, Nat.mul_comm]
        rw [e8]
        generalize s * C = Z at *
        rcases Nat.lt_trichotomy Q Z with hz | hz | hz
        · omega
        · subst hz
          rw [Nat.mul_comm n Q] at hdm; omega
        · have : n * Z + n ≤ n * Q := by rw [← Nat.mul_succ]; exact Nat.mul_le_mul_left n hz
          rw [Nat.mul_comm Z n] at h6; omega
      have := Nat.mul_le_mul_right (2 ^ K) h7
      refine Nat.le_trans this (Nat.le_of_eq ?_)
      simp only [Nat.mul_assoc]
    · exfalso
      have h1 : 2 ^ t ≤ 2 ^ K := Nat.pow_le_pow_right (by omega) (by omega)
      have h2 : s * 2 ^ t ≤ s * 2 ^ K := Nat.mul_le_mul_left _ h1
      have h3 := Nat.le_trans h' (Nat.mul_le_mul_right n h2)
      have h4 : 2 * X ≤ s * n := by
        refine Nat.le_of_mul_le_mul_right ?_ hK
        refine Nat.le_trans h3 (Nat.le_of_eq ?_)
        simp only [Nat.mul_assoc, Nat.mul_left_comm, Nat.mul_comm]
      have h5 : s * n < 2 ^ 53 * n := (Nat.mul_lt_mul_right hn0).2 (by omega)
      rw [Nat.mul_comm n] at hd
      omega
  · intro b hb h
    refine le_RU hb ?_
    have h' := Nat.mul_le_mul_right (2 ^ (more + 1)) h
    rw [scale] at h'
    have e2 : val b * (n * 2 ^ j) * 2 ^ (more + 1) = mag b * 2 ^ (up b + (j + more + 1)) * n := by
      unfold val
      rw [show up b + (j + more + 1) = up b + j + (more + 1) by omega, Nat.pow_add 2 (up b + j), Nat.pow_add 2 (up b)]
      simp only [Nat.mul_assoc, Nat.mul_left_comm, Nat.mul_comm]
    rw [e2] at h'
    have e3 : val b * 2 ^ (j + more + 1) = mag b * 2 ^ (up b + (j + more + 1)) := by
      unfold val; rw [Nat.pow_add 2 (up b), Nat.mul_assoc]
    rw [e3]
    generalize up b + (j + more + 1) = t at *
    have hmb := mag_lt b
    generalize mag b = s at *
    generalize i + 1074 = K at *
    have hK : 0 < 2 ^ K := Nat.two_pow_pos K
    by_cases ht : K ≤ t
    · have e4 : 2 ^ t = 2 ^ (t - K) * 2 ^ K := by
        rw [← Nat.pow_add]; congr 1; omega
      rw [e4] at h' ⊢
      generalize 2 ^ (t - K) = C at *
      have h5 : s * C * n ≤ 2 * X := by
        refine Nat.le_of_mul_le_mul_right ?_ hK
        refine Nat.le_trans (Nat.le_of_eq ?_) h'
        simp only [Nat.mul_assoc, Nat.mul_left_comm, Nat.mul_comm]
      have h7 : s * C ≤ 2 * Q + st := by
        generalize s * C = Z at *
        apply Nat.le_of_not_lt
        intro hz
        have h8 : (2 * Q + st + 1) * n ≤ Z * n := Nat.mul_le_mul_right n hz
        have e9 : (2 * Q + st + 1) * n = 2 * (n * Q) + st * n + n := by rw [Nat.add_mul, Nat.add_mul, Nat.one_mul, Nat.mul_assoc, Nat.mul_comm Q n]
        rw [e9] at h8
        rcases hst2 with ⟨h1, h2⟩ | ⟨h1, h2⟩
        · subst h2; omega
        · subst h2; omega
      have := Nat.mul_le_mul_right (2 ^ K) h7
      refine Nat.le_trans (Nat.le_of_eq ?_) this
      simp only [Nat.mul_assoc]
    · have h1 : 2 ^ t ≤ 2 ^ K := Nat.pow_le_pow_right (by omega) (by omega)
      exact Nat.mul_le_mul (by omega) h1

theorem mag_ne {r : Nat} (h : r ≠ 0) : mag r ≠ 0 := by
  unfold mag; have := B_pos; split <;> omega
theorem mag_zero : mag 0 = 0 := by decide

/-- A quotient of numbers, the divisor not nought. -/
theorem div_num {x y : Nat} (hx : rg x < inf) (hy : rg y < inf) (h0 : rg y ≠ 0) :
    ∃ r, Ieee.double.div x y = some (word (sg x ^^ sg y) r) ∧ Rounds r (val (rg x) * U) (val (rg y)) := by
  unfold Format.div
  rw [U_eq]
  rw [read_num hx, read_num hy]
  have hn := mag_ne h0
  simp only [Datum.quotient, fw]
  rw [if_neg hn]
  simp only [Option.map_some, write_num]
  by_cases hm : rg x = 0
  · rw [hm, mag_zero, val_zero]
    refine ⟨0, ?_, ?_⟩
    · have : (2 * (0 <<< (52 + 2 + (mag (rg y)).log2 - Nat.log2 0) / mag (rg y)) + (0 <<< (52 + 2 + (mag (rg y)).log2 - Nat.log2 0) % mag (rg y) != 0).toNat) = 0 := by simp
      rw [this]
      unfold Format.nearest
      rw [if_pos rfl, dword]
    · refine ⟨by decide, fun b _ _ => Nat.zero_le _, fun b hb h => ?_⟩
      rw [Nat.zero_mul] at h
      have hv : 0 < val (rg y) := by
        have := (val_lt_iff (Nat.zero_le inf) (Nat.le_of_lt hy)).2 (by omega)
        rwa [val_zero] at this
      have h1 : val b = 0 := by
        rcases Nat.mul_eq_zero.1 (Nat.le_zero.1 h) with h1 | h1
        · exact h1
        · omega
      have := (val_eq_iff hb (Nat.zero_le inf)).1 (by rw [h1, val_zero])
      omega
  · have hm' := mag_ne hm
    refine ⟨_, ?_, quot_rounds (mag (rg x)) (up (rg x)) (mag (rg y)) (up (rg y)) hn _ rfl hm'⟩
    rw [nearest_eq _ _ _ (up (rg x) + 1074) (up (rg y) + (54 + (mag (rg y)).log2 - (mag (rg x)).log2) + 1) (by omega)]

/-- of whole numbers -/
theorem ofInt_eq (n : Int) : Go.floatOfInt .f64 n = word (decide (n < 0)) (RU (n.natAbs * U) 0) := by
  rw [U_eq]
  show Ieee.double.nearest _ _ _ = _
  rw [nearest_eq _ _ _ 1074 0 (by omega)]

theorem nat_rung {n : Nat} (h : n < 2 * B) (D : Nat) : RU (n * U * 2 ^ D) D < inf ∧ val (RU (n * U * 2 ^ D) D) = n * U := by rw [U_eq]; exact RU_val h (by omega) D

def ru (n : Nat) : Nat := RU (n * U) 0
theorem ru_lt {n : Nat} (h : n < 2 * B) : ru n < inf := by have := (nat_rung h 0).1; rwa [Nat.pow_zero, Nat.mul_one] at this
theorem ru_val {n : Nat} (h : n < 2 * B) : val (ru n) = n * U := by have := (nat_rung h 0).2; rwa [Nat.pow_zero, Nat.mul_one] at this
theorem ru_mono {n m : Nat} (h : n ≤ m) : ru n ≤ ru m := RU_mono 0 (Nat.mul_le_mul_right _ h)

theorem sg_ofInt (n : Int) : sg (Go.floatOfInt .f64 n) = decide (n < 0) := by rw [ofInt_eq]; exact sg_word (RU_le_inf _ _)
theorem rg_ofInt (n : Int) : rg (Go.floatOfInt .f64 n) = ru n.natAbs := by rw [ofInt_eq]; exact rg_word (RU_le_inf _ _)

/-- cut towards nought / down, of numbers from nought on -/
theorem cut_low (way : Toward) (n d : Nat) (hw : way = .down ∨ way = .zero) : way.cut false n d = n / 2 ^ d := by
  unfold Toward.cut
  simp only [Nat.shiftLeft_eq, Nat.one_mul]
  have key : ∀ m : Bool, m = false → n / 2 ^ min d (n.log2 + 2) + m.toNat = n / 2 ^ d → n / 2 ^ min d (n.log2 + 2) + m.toNat = n / 2 ^ d := fun _ _ h => h
  refine key _ (by rcases hw with rfl | rfl <;> rfl) ?_
  have fin : n / 2 ^ min d (n.log2 + 2) = n / 2 ^ d → ∀ m : Bool, m = false → n / 2 ^ min d (n.log2 + 2) + m.toNat = n / 2 ^ d := by
    intro h m hm; rw [hm, h]; rfl
  refine fin ?_ _ (by rcases hw with rfl | rfl <;> rfl)
  by_cases hd : d ≤ n.log2 + 2
  · rw [Nat.min_eq_left hd]
  · rw [Nat.min_eq_right (by omega)]
    have h1 : n < 2 ^ (n.log2 + 1) := Nat.lt_log2_self
    have h2 : 2 ^ (n.log2 + 1) ≤ 2 ^ (n.log2 + 2) := Nat.pow_le_pow_right (by omega) (by omega)
    have h3 : 2 ^ (n.log2 + 2) ≤ 2 ^ d := Nat.pow_le_pow_right (by omega) (by omega)
    rw [Nat.div_eq_of_lt (by omega), Nat.div_eq_of_lt (by omega)]

theorem cut_val (way : Toward) (hw : way = .down ∨ way = .zero) (r : Nat) :
    way.cut false (mag r <<< (-1074 + (up r : Nat) : Int).toNat) (-(-1074 + (up r : Nat) : Int)).toNat = val r / U := by
  rw [cut_low _ _ _ hw, Nat.shiftLeft_eq, U_eq]
  unfold val
  by_cases h : up r ≤ 1074
  · rw [show (-1074 + (up r : Nat) : Int).toNat = 0 by omega, show (-(-1074 + (up r : Nat) : Int)).toNat = 1074 - up r by omega]
    rw [Nat.pow_zero, Nat.mul_one]
    have : 2 ^ 1074 = 2 ^ (1074 - up r) * 2 ^ up r := by rw [← Nat.pow_add]; congr 1; omega
    rw [this, Nat.mul_div_mul_right _ _ (Nat.two_pow_pos _)]
  · rw [show (-1074 + (up r : Nat) : Int).toNat = up r - 1074 by omega, show (-(-1074 + (up r : Nat) : Int)).toNat = 0 by omega]
    rw [Nat.pow_zero, Nat.div_one]
    have : 2 ^ up r = 2 ^ (up r - 1074) * 2 ^ 1074 := by rw [← Nat.pow_add]; congr 1; omega
    rw [this, ← Nat.mul_assoc, Nat.mul_div_cancel _ (Nat.two_pow_pos _)]

/-- Down to a whole number, of a number from nought on. -/
theorem floor_num {x : Nat} (hs : sg x = false) (hx : rg x < inf) : Ieee.double.write ((Ieee.double.read x).integral .down) = ru (val (rg x) / U) := by
  rw [read_num hx, hs]
  simp only [Datum.integral, write_num]
  rw [cut_val .down (.inl rfl), nearest_eq _ _ _ 1074 0 (by omega), ru, U_eq, word_false]

theorem toInt_num {x : Nat} (hs : sg x = false) (hx : rg x < inf) : (Ieee.double.read x).toInt .zero = some ((val (rg x) / U : Nat) : Int) := by
  rw [read_num hx, hs]
  simp only [Datum.toInt, Datum.integral]
  rw [cut_val .zero (.inr rfl)]
  simp only [signed, Bool.false_eq_true, if_false, Nat.shiftLeft_zero]

theorem toInt_val {x : Nat} (hs : sg x = false) (hx : rg x < inf) (h : val (rg x) / U ≤ 9223372036854775807) : Go.floatToIntVal .f64 x .i64 = some ((val (rg x) / U : Nat) : Int) := by
  unfold Go.floatToIntVal
  have e : (Go.FloatKind.f64.decode x).toInt .zero = some ((val (rg x) / U : Nat) : Int) := toInt_num hs hx
  rw [e]
  dsimp only
  rw [if_pos]
  constructor
  · refine Int.le_trans (b := 0) (by decide) (Int.natCast_nonneg _)
  · have : Go.IntKind.i64.max = 9223372036854775807 := by decide
    rw [this]; omega
end Fl

namespace Fl
/-- x < y, x = y (the two noughts alike) -/
def flt (x y : Nat) : Bool := !isN x && !isN y && decide (key x < key y)
def feq (x y : Nat) : Bool := !isN x && !isN y && decide (key x = key y)

theorem order_cases (x y : Nat) : ((isN x = true ∨ isN y = true) ∧ Ieee.double.order x y = none) ∨ (isN x = false ∧ isN y = false ∧ Ieee.double.order x y = some (compare (key x) (key y))) := by
  by_cases h : inf < rg x ∨ inf < rg y
  · left
    refine ⟨?_, order_nan h⟩
    unfold isN; simpa using h
  · right
    refine ⟨?_, ?_, order_num (by omega) (by omega)⟩ <;> unfold isN <;> simp <;> omega

theorem cmp_lt (x y : Nat) : (Go.FloatKind.f64.format.order x y == some .lt) = flt x y := by
  show (Ieee.double.order x y == some .lt) = flt x y
  rcases order_cases x y with ⟨h, e⟩ | ⟨h1, h2, e⟩
  · rw [e]; unfold flt; rcases h with h | h <;> rw [h] <;> simp
  · rw [e]; unfold flt; rw [h1, h2]
    by_cases h : key x < key y
    · rw [Int.compare_eq_lt.2 h]; simp [h]
    · have : compare (key x) (key y) ≠ .lt := fun e => h (Int.compare_eq_lt.1 e)
      simp [h, this]
theorem cmp_gt (x y : Nat) : (Go.FloatKind.f64.format.order x y == some .gt) = flt y x := by
  show (Ieee.double.order x y == some .gt) = flt y x
  rcases order_cases x y with ⟨h, e⟩ | ⟨h1, h2, e⟩
  · rw [e]; unfold flt; rcases h with h | h <;> rw [h] <;> simp
  · rw [e]; unfold flt; rw [h1, h2]
    by_cases h : key y < key x
    · rw [Int.compare_eq_gt.2 h]; simp [h]
    · have : compare (key x) (key y) ≠ .gt := fun e => h (Int.compare_eq_gt.1 e)
      simp [h, this]
theorem cmp_eq (x y : Nat) : (Go.FloatKind.f64.format.order x y == some .eq) = feq x y := by
  show (Ieee.double.order x y == some .eq) = feq x y
  rcases order_cases x y with ⟨h, e⟩ | ⟨h1, h2, e⟩
  · rw [e]; unfold feq; rcases h with h | h <;> rw [h] <;> simp
  · rw [e]; unfold feq; rw [h1, h2]
    by_cases h : key x = key y
    · rw [Int.compare_eq_eq.2 h]; simp [h]
    · have : compare (key x) (key y) ≠ .eq := fun e => h (Int.compare_eq_eq.1 e)
      simp [h, this]
theorem cmp_ne (x y : Nat) : (Go.FloatKind.f64.format.order x y != some .eq) = !feq x y := by
  have := cmp_eq x y
  rw [← this]; rfl
theorem feq_self (x : Nat) : feq x x = !isN x := by unfold feq; cases isN x <;> simp
end Fl

namespace Fl
theorem val_R16 : val 4625196817309499392 = 16 * U := by rw [U_eq]; decide +kernel
theorem val_R1 : val 4607182418800017408 = U := by rw [U_eq]; decide +kernel
theorem RU_scaleU (M : Nat) : RU (M * U) 1074 = RU M 0 := by rw [U_eq]; exact RU_scale M 0 1074
/-- A whole number times a number from nought on. -/
theorem mul_nat {k x : Nat} (hk : k < 2 * B) (hs : sg x = false) (hx : rg x < inf) :
    Ieee.double.mul (Go.floatOfInt .f64 k) x = some (RU (k * val (rg x)) 0) := by
  have hr : rg (Go.floatOfInt .f64 (k : Int)) = ru k := by rw [rg_ofInt]; simp
  have hg : sg (Go.floatOfInt .f64 (k : Int)) = false := by rw [sg_ofInt]; simp
  rw [mul_num (by rw [hr]; exact ru_lt hk) hx, hr, hg, hs, ru_val hk]
  have : k * U * val (rg x) = k * val (rg x) * U := by rw [Nat.mul_assoc, Nat.mul_comm U, ← Nat.mul_assoc]
  rw [this, RU_scaleU, show (false ^^ false) = false from rfl, word_false]
theorem small_sg {p : Nat} (h : p ≤ inf) : sg p = false := by have := sg_word (neg := false) h; rwa [word_false] at this
theorem small_rg {p : Nat} (h : p ≤ inf) : rg p = p := by have := rg_word (neg := false) h; rwa [word_false] at this
theorem small_isN {p : Nat} (h : p ≤ inf) : isN p = false := by unfold isN; rw [small_rg h]; simp; omega

/-- What a float is as a rate. -/
def cl (x : Nat) : Nat := if isN x then 0 else if flt x 0 || feq x 0 then 0 else if flt 4625196817309499392 x then 4625196817309499392 else x
theorem key_pos {x : Nat} (h : 0 < key x) : sg x = false ∧ key x = rg x := by
  unfold key at *; cases hs : sg x <;> rw [hs] at h <;> simp at h ⊢
  omega
theorem key0 : key 0 = 0 := by decide
theorem cl_spec (x : Nat) (hx : x < 18446744073709551616) : cl x ≤ 4625196817309499392 ∧ (cl x = x ∨ cl x = 0 ∨ cl x = 4625196817309499392) ∧ (cl x = 0 ↔ isN x = true ∨ key x ≤ 0) ∧ (isN x = false → 0 < key x → cl x = min (rg x) 4625196817309499392) := by
  unfold cl
  by_cases h1 : isN x = true
  · simp [h1]
  · rw [if_neg h1]
    have h1' : isN x = false := by simpa using h1
    have n0 : isN 0 = false := by decide
    have n16 : isN 4625196817309499392 = false := by decide
    have k16 : key 4625196817309499392 = 4625196817309499392 := by decide
    have e : (flt x 0 || feq x 0) = decide (key x ≤ 0) := by
      unfold flt feq
      rw [h1', n0, key0]
      by_cases h : key x ≤ 0
      · have : key x < 0 ∨ key x = 0 := by omega
        simp [this, h]
      · have a : ¬ key x < 0 := by omega
        have b : ¬ key x = 0 := by omega
        simp [a, b, h]
    rw [e]
    by_cases h2 : key x ≤ 0
    · simp [h1, h2]; intro h; omega
    · have h2' : 0 < key x := by omega
      obtain ⟨s, hk⟩ := key_pos h2'
      have hb : x = rg x := by
        unfold sg at s; unfold rg
        simp at s; omega
      have e2 : flt 4625196817309499392 x = decide (4625196817309499392 < rg x) := by
        unfold flt; rw [h1', n16, k16, hk]; simp; omega
      rw [e2]
      simp only [h2, decide_false, Bool.false_eq_true, if_false, h1', decide_eq_true_eq]
      split
      · rename_i h
        refine ⟨Nat.le_refl _, .inr (.inr rfl), ⟨fun h => by omega, fun h => by rcases h with h | h <;> first | cases h | exact absurd h id⟩, fun _ _ => by omega⟩
      · rename_i h
        refine ⟨by omega, .inl rfl, ⟨fun h => by omega, fun h => by rcases h with h | h <;> first | cases h | exact absurd h id⟩, fun _ _ => by omega⟩
theorem cl_small (x : Nat) (hx : x < 18446744073709551616) : sg (cl x) = false ∧ rg (cl x) = cl x ∧ cl x < inf := by
  have h := (cl_spec x hx).1
  have hi : inf = 9218868437227405312 := rfl
  exact ⟨small_sg (by omega), small_rg (by omega), by omega⟩
theorem cl_val (x : Nat) (hx : x < 18446744073709551616) : val (cl x) ≤ 16 * U := by
  rw [← val_R16]; exact val_le (cl_spec x hx).1 (by decide)

/-- The rung of k times what x is as a rate. -/
def pr (x k : Nat) : Nat := RU (k * val (cl x)) 0
theorem pr_le {x k : Nat} (hx : x < 18446744073709551616) (hk : k ≤ 1000) : pr x k ≤ ru 16000 := by
  refine RU_mono 0 ?_
  have := Nat.mul_le_mul hk (cl_val x hx)
  rw [← Nat.mul_assoc] at this
  exact this
theorem pr_lt {x k : Nat} (hx : x < 18446744073709551616) (hk : k ≤ 1000) : pr x k < inf :=
  Nat.lt_of_le_of_lt (pr_le hx hk) (ru_lt (by decide))
theorem mul_pr {x k : Nat} (hx : x < 18446744073709551616) (hk : k ≤ 1000) : Go.floatBits .mul .f64 (Go.floatOfInt .f64 (k : Int)) (cl x) = some (pr x k) := by
  obtain ⟨h1, h2, h3⟩ := cl_small x hx
  show Ieee.double.mul _ _ = _
  have hB : 2 * B = 9007199254740992 := by decide
  rw [mul_nat (by omega) h1 (by rw [h2]; exact h3), h2]
  rfl
/-- By how much a clock moves. -/
def mv (x k : Nat) : Nat := val (pr x k) / U
theorem mv_le {x k : Nat} (hx : x < 18446744073709551616) (hk : k ≤ 1000) : mv x k ≤ 16000 := by
  have h := val_le (pr_le hx hk) (Nat.le_of_lt (ru_lt (by decide)))
  rw [ru_val (by decide)] at h
  exact Nat.div_le_of_le_mul (by rw [Nat.mul_comm]; exact h)
theorem cut_pr {x k : Nat} (hx : x < 18446744073709551616) (hk : k ≤ 1000) : Go.floatToIntVal .f64 (pr x k) .i64 = some (mv x k : Int) := by
  have h := pr_lt hx hk
  have hm := mv_le hx hk
  have := toInt_val (x := pr x k) (small_sg (by omega)) (by rw [small_rg (by omega)]; exact h)
  rw [small_rg (by omega)] at this
  exact this (by unfold mv at hm; omega)
theorem floor_pr {x k : Nat} (hx : x < 18446744073709551616) (hk : k ≤ 1000) : Ieee.double.write ((Ieee.double.read (pr x k)).integral .down) = ru (mv x k) := by
  have h := pr_lt hx hk
  have := floor_num (x := pr x k) (small_sg (by omega)) (by rw [small_rg (by omega)]; exact h)
  rw [small_rg (by omega)] at this
  exact this
theorem cut_ru {m : Nat} (hm : m ≤ 16000) : Go.floatToIntVal .f64 (ru m) .i64 = some (m : Int) := by
  have hB : 2 * B = 9007199254740992 := by decide
  have h := ru_lt (n := m) (by omega)
  have := toInt_val (x := ru m) (small_sg (by omega)) (by rw [small_rg (by omega)]; exact h)
  rw [small_rg (by omega), ru_val (by omega), Nat.mul_div_cancel _ U_pos] at this
  exact this (by omega)
theorem mv_mono {x y k l : Nat} (h : cl x ≤ cl y) (hy : y < 18446744073709551616) (hk : k ≤ l) (hl : l ≤ 1000) : mv x k ≤ mv y l := by
  have h1 := val_le h (Nat.le_of_lt (cl_small y hy).2.2)
  have h2 : pr x k ≤ pr y l := RU_mono 0 (Nat.mul_le_mul hk h1)
  exact Nat.div_le_div_right (val_le h2 (Nat.le_of_lt (pr_lt hy hl)))
theorem mv_zero {x k : Nat} (h : cl x = 0) : mv x k = 0 := by
  unfold mv pr
  rw [h, val_zero, Nat.mul_zero, RU_zero, val_zero, Nat.zero_div]
theorem mv_one {x k : Nat} (h : cl x = 4607182418800017408) (hk : k ≤ 1000) : mv x k = k := by
  have hB : 2 * B = 9007199254740992 := by decide
  unfold mv pr
  rw [h, val_R1, show RU (k * U) 0 = ru k from rfl, ru_val (by omega), Nat.mul_div_cancel _ U_pos]
end Fl
