/- Plain laws for GaugeMeans: of one, of none; a store into a row of one's own. -/
import Derived.Test.YtpjefioopbnolaaRows
import Derived.WalkKit
import Derived.WalkSpells
import Derived.WalkLawsBesides
import Derived.Handy
import Derived.Test.YtpjefioopbnolaaMem
import Derived.Test.YtpjefioopbnolaaFl
import Derived.Test.YtpjefioopbnolaaFlRun
import Derived.Test.YtpjefioopbnolaaAlike
import Derived.Test.YtpjefioopbnolaaApp
import Derived.Test.YtpjefioopbnolaaGauV
import Derived.Test.YtpjefioopbnolaaMaxG
import Derived.Test.YtpjefioopbnolaaBits2
import Derived.Test.YtpjefioopbnolaaInf
import Derived.Test.YtpjefioopbnolaaGauS
import Derived.Test.YtpjefioopbnolaaGrade
import Derived.Test.YtpjefioopbnolaaMost
import Derived.Test.YtpjefioopbnolaaFair
import Derived.Test.YtpjefioopbnolaaAw30
import Derived.Test.YtpjefioopbnolaaMeansP
import Derived.Test.YtpjefioopbnolaaMeansQ
namespace Go.Proofs.Ytpjefioopbnolaa
open Go.RowKit
set_option linter.unusedVariables false

open Fl
theorem one_f : floatOfInt .f64 1 = 4607182418800017408 := by decide +kernel
theorem fits_one : Fits (some (floatOfInt .f64 1)) 4607182418800017408 := ⟨by omega, one_f.symm⟩
theorem nil_fs (w : World) (b : Nat → Nat) : IsFs w none 0 b := ⟨by omega, fun i hi => by omega, fun h => by omega⟩
theorem mean_nil (b : Nat → Nat) : opV .quo (SV (fun j => av (b j)) 0) (some (floatOfInt .f64 ((0 : Nat) : Int))) = none := by
  show opV .quo (some 0) (some (floatOfInt .f64 0)) = none
  rw [ofInt_zero]
  exact quo_00
theorem most_nil (b : Nat → Nat) : mostV b 0 = some 18442240474082181120 := rfl
theorem down_true : flt 9218868437227405311 (word (!sg 18442240474082181120) (rg 18442240474082181120)) = true := by decide +kernel
theorem most_one {x : Nat} (hx : x < 18446744073709551616) : mostV (fun _ => x) 1 = av x := by
  unfold mostV av
  show (if (false || isN x) = true then none else some (mostS 18442240474082181120 x)) = _
  rw [Bool.false_or]
  rcases hn : isN x with _ | _
  · rw [if_neg (by simp), if_neg (by simp)]
    congr 1
    unfold mostS
    split
    · rfl
    · next h =>
      have n1 : isN 18442240474082181120 = false := by decide
      have k1 : Fl.key 18442240474082181120 = -9218868437227405312 := by decide
      rw [Bool.or_eq_true, not_or] at h
      have h1 := h.1
      unfold flt at h1
      rw [n1, hn, k1] at h1
      simp only [Bool.not_false, Bool.true_and, decide_eq_true_eq] at h1
      have hi : inf = 9218868437227405312 := rfl
      have hr : rg x ≤ inf := by unfold isN at hn; simpa using hn
      have hk : Fl.key x ≥ -9218868437227405312 := by
        unfold Fl.key
        split <;> omega
      exact key_word (by omega) hx (by omega) (by omega)
  · rfl
theorem SV_isN {b : Nat → Nat} {j len : Nat} (hj : j < len) (h : isN (b j) = true) : SV (fun j => av (b j)) len = none := SV_none hj (by show av (b j) = none; unfold av; rw [h]; rfl)
/-- The block of a row of one's own. -/
theorem own_blk {w : World} {B : Nat} {e : TypeId} {v : Value} {n : Nat} {b : Nat → Nat} (h : w.ownsRow B e 1 v n (fsL b n)) (hn : 0 < n) :
    ∃ g cap cur, v = .slice (some ⟨g, 0, none⟩) n cap ∧ B ≤ g ∧ Blk w g e cur ∧ n ≤ cur.size ∧ ∀ i, i < n → cur[i]? = some (.float .f64 (b i)) := by
  rcases h.2 with ⟨rfl, rfl⟩ | ⟨g, cap, cur, rfl, hB, hg, hnc, hcm, hcs, htake⟩
  · omega
  · refine ⟨g, cap, cur, rfl, hB, hg, by omega, fun i hi => ?_⟩
    have := h.cells (g := g) rfl i _ (fsL_get hi)
    rw [addr_add, Nat.zero_add] at this
    rw [← (show Blk w g e cur from hg).cell i]
    exact this
theorem fs_set {w : World} {g : Nat} {e : TypeId} {cur : Array Value} {n : Nat} {b : Nat → Nat} {j q : Nat} (hg : Blk w g e cur) (hn : n ≤ cur.size) (hnl : n ≤ 9223372036854775807) (hc : ∀ i, i < n → cur[i]? = some (.float .f64 (b i))) (hb : ∀ i, i < n → b i < 18446744073709551616) (hj : j < n) (hq : q < 18446744073709551616) :
    IsFs (w.setCell ⟨g, j, none⟩ (.float .f64 q)) (some ⟨g, 0, none⟩) n (upd1 b j q) := by
  refine ⟨hnl, fun i hi => ?_, fun _ => ⟨g, 0, rfl, (hg.set j _).lt, fun i hi => ?_⟩⟩
  · unfold upd1; split
    · exact hq
    · exact hb i hi
  · rw [Nat.zero_add, (hg.set j _).cell]
    unfold upd1
    by_cases h : i = j
    · subst h; rw [if_pos rfl]; exact Array.getElem?_setIfInBounds_self_of_lt (by omega)
    · rw [if_neg h, Array.getElem?_setIfInBounds_ne (fun e => h e.symm)]; exact hc i hi
theorem means_lt {z : Nat → Int} {n : Nat} (h : ∀ i, (z i).natAbs ≤ 100000) (h1 : 1 ≤ n) (hn : n ≤ 1000) :
    ∃ q m, opV .quo (SV (fun i => av (floatOfInt .f64 (z i))) n) (some (floatOfInt .f64 (n : Int))) = some q ∧ mostV (fun i => floatOfInt .f64 (z i)) n = some m ∧ flt m q = false ∧ flt q (floatOfInt .f64 (minZ z n)) = false := by
  have hb := sumZ_bd h n
  obtain ⟨q, e, hnq, h2, h3⟩ := mean_int (S := sumZ z n) (n := n) (by omega) h1 hn
  obtain ⟨k, rfl⟩ : ∃ k, n = k + 1 := ⟨n - 1, by omega⟩
  have hm := most_int h k
  refine ⟨q, floatOfInt .f64 (maxZ z k), ?_, ?_, ?_, ?_⟩
  · rw [SV_int h (by omega)]; exact e
  · unfold mostV
    rw [anyN_false.2 (fun i _ => ofInt_isN (z i)), if_neg (by simp), hm.1]
  · exact h2 _ hm.2 (sumZ_le fun i hi => maxZ_ge z k i (by omega))
  · exact h3 _ (minZ_bd h _) (le_sumZ fun i hi => (minZ_le z _).2 i hi)
theorem zat_i16 {w : World} {a : Option Addr} {len cap : Nat} {zs : List Int} (h : IsRow .i16 w a len cap zs) (i : Nat) : (zat zs i).natAbs ≤ 100000 := by
  rcases h with ⟨rfl, rfl, rfl, rfl⟩ | ⟨x, rfl, hl, hm, hz, hcell, hwz⟩
  · simp [zat]
  · unfold zat
    rw [List.getD_eq_getElem?_getD]
    by_cases hi : i < zs.length
    · rw [List.getElem?_eq_getElem hi]
      have := bounds_i16 (hwz _ (List.getElem_mem hi))
      show (zs[i]).natAbs ≤ 100000
      omega
    · rw [List.getElem?_eq_none (by omega)]; simp
theorem zat_u8 {w : World} {a : Option Addr} {len cap : Nat} {zs : List Int} (h : IsRow .u8 w a len cap zs) (i : Nat) : 0 ≤ zat zs i ∧ zat zs i ≤ 255 := by
  rcases h with ⟨rfl, rfl, rfl, rfl⟩ | ⟨x, rfl, hl, hm, hz, hcell, hwz⟩
  · simp [zat]
  · unfold zat
    rw [List.getD_eq_getElem?_getD]
    by_cases hi : i < zs.length
    · rw [List.getElem?_eq_getElem hi]
      exact bounds_u8 (hwz _ (List.getElem_mem hi))
    · rw [List.getElem?_eq_none (by omega)]; simp
end Go.Proofs.Ytpjefioopbnolaa
