/- The contracts of gauge.Waits and the document's Waits. -/
import Derived.Test.YtpjefioopbnolaaRows
import Derived.WalkKit
import Derived.WalkSpells
import Derived.WalkLawsBesides
import Derived.Handy
import Derived.Outline
import Derived.Deep.QuietTactic
import Derived.BigQuiet
import Derived.Test.YtpjefioopbnolaaMem
import Derived.Test.YtpjefioopbnolaaFl
import Derived.Test.YtpjefioopbnolaaFlRun
import Derived.Test.YtpjefioopbnolaaAlike
import Derived.Test.YtpjefioopbnolaaApp
import Derived.Test.YtpjefioopbnolaaGauV
import Derived.Test.YtpjefioopbnolaaMaxG
import Derived.Test.YtpjefioopbnolaaBits2
import Derived.Test.YtpjefioopbnolaaInf
import Derived.Test.YtpjefioopbnolaaGauS
import Derived.Test.YtpjefioopbnolaaGrade
import Derived.Test.YtpjefioopbnolaaMost
import Derived.Test.YtpjefioopbnolaaFair
import Derived.Test.YtpjefioopbnolaaAw30
import Derived.Test.YtpjefioopbnolaaWaitsV
namespace Go.Proofs.Ytpjefioopbnolaa
open Go.RowKit
set_option linter.unusedVariables false

open Fl
/-- Cell j of a request. -/
def sdV (s h : Int) (j : Nat) : Value := if j = 5 then .int .i64 s else if j = 6 then .int .i64 h else if j = 4 then .string { data := #[] } else if j = 10 then .slice none 0 0 else .int .i64 0
def IsSd (w : World) (a : Option Addr) (len : Nat) (s h : Nat → Int) : Prop :=
  len ≤ 9223372036854775807 ∧ (0 < len → ∃ b off, a = some ⟨b, off, none⟩ ∧ b < w.heap.size ∧ ∀ i, i < len → ∀ j, j < 11 → w.cell? ⟨b, off + (i * 11) + j, none⟩ = some (sdV (s i) (h i) j))
theorem IsSd.kept {w w' : World} {a : Option Addr} {len : Nat} {s h : Nat → Int} (H : IsSd w a len s h) (hb : w.grownBy w' none) : IsSd w' a len s h := by
  refine ⟨H.1, fun hp => ?_⟩
  obtain ⟨b, off, e, hlt, hc⟩ := H.2 hp
  exact ⟨b, off, e, Nat.lt_of_lt_of_le hlt hb.size, fun i hi j hj => keep_new hb (hc i hi j hj)⟩
def WtRel (s h : Nat → Int) (len : Nat) (w : World) (v i : Value) (wr : World) : Prop :=
  ∃ (k : Nat) (r : Nat → Nat), k ≤ len ∧ i = .int .i64 k ∧ wr.ownsRow w.heap.size 28 1 v k (fsL r k) ∧ (∀ i, i < k → Fits (wv (s i) (h i)) (r i)) ∧ w.grownBy wr none
theorem WtRel.next {s h : Nat → Int} {len k : Nat} {w w1 : World} {v : Value} {r : Nat → Nat} {q : Nat} (hk : k < len) (ho : w1.ownsRow w.heap.size 28 1 v (k + 1) (fsL r k ++ [.float .f64 q])) (hf : ∀ i, i < k → Fits (wv (s i) (h i)) (r i)) (hq : Fits (wv (s k) (h k)) q) (hg : w.grownBy w1 none) :
    WtRel s h len w v (.int .i64 ((k : Int) + 1)) w1 := by
  refine ⟨k + 1, upd1 r k q, by omega, by go_num, by rw [← fsL_upd]; exact ho, fun i hi => ?_, hg⟩
  unfold upd1
  by_cases e : i = k
  · subst e; rw [if_pos rfl]; exact hq
  · rw [if_neg e]; exact hf i (by omega)
set_option maxRecDepth 100000 in
set_option maxHeartbeats 4000000 in
theorem waits_any (a : Option Addr) (len cap : Nat) (s h : Nat → Int) (w : World) (H : IsSd w a len s h) (hlen : len ≤ 1000) :
    Calls Try.prog 24 #[.slice a len cap] w fun e w' => ∃ a' cap' r, e = .returned (.slice a' len cap') ∧ IsFs w' a' len r ∧ (∀ i, i < len → Fits (wv (s i) (h i)) (r i)) ∧ w.grownBy w' none := by
  have HH := Lib.hid H
  have HS : Hid (WtRel s h len w (.slice none 0 0) (.int .i64 0) w) := ⟨0, fun _ => 0, by omega, rfl, World.ownsRow_nil _ _ _ _, fun i hi => by omega, only_refl _ _⟩
  clear H
  go_enter Try.func24, Try.ntmps24
  go_wp2_with fail
  go_loopw [3, 8] (fun v i wr => WtRel s h len w v i wr) (fun _ i _ => len - (intOf i).toNat)
  case atStart => exact HS.out
  case round =>
    clear HS
    obtain ⟨k, r, hk, rfl, ho, hf, hg⟩ := hrel
    have HO := Lib.hid ho
    have HG := Lib.hid hg
    have HF := Lib.hid hf
    have hsz : w.heap.size ≤ wr.heap.size := hg.size
    clear ho hf hg
    by_cases hlt : k < len
    · obtain ⟨g, off, rfl, hglt, hcell⟩ := (HH.out.kept HG.out).2 (by omega)
      have hi0 : (0 : Int) ≤ (k : Int) := by omega
      have hi1 : (k : Int) < (len : Int) := by omega
      have q0 : wr.cell? ⟨g, off + (k * 11), none⟩ = some (.int .i64 0) := hcell k hlt 0 (by omega)
      have q1 : wr.cell? ⟨g, off + (k * 11) + 1, none⟩ = some (.int .i64 0) := hcell k hlt 1 (by omega)
      have q2 : wr.cell? ⟨g, off + (k * 11) + 2, none⟩ = some (.int .i64 0) := hcell k hlt 2 (by omega)
      have q3 : wr.cell? ⟨g, off + (k * 11) + 3, none⟩ = some (.int .i64 0) := hcell k hlt 3 (by omega)
      have q4 : wr.cell? ⟨g, off + (k * 11) + 4, none⟩ = some (.string { data := #[] }) := hcell k hlt 4 (by omega)
      have q5 : wr.cell? ⟨g, off + (k * 11) + 5, none⟩ = some (.int .i64 (s k)) := hcell k hlt 5 (by omega)
      have q6 : wr.cell? ⟨g, off + (k * 11) + 6, none⟩ = some (.int .i64 (h k)) := hcell k hlt 6 (by omega)
      have q7 : wr.cell? ⟨g, off + (k * 11) + 7, none⟩ = some (.int .i64 0) := hcell k hlt 7 (by omega)
      have q8 : wr.cell? ⟨g, off + (k * 11) + 8, none⟩ = some (.int .i64 0) := hcell k hlt 8 (by omega)
      have q9 : wr.cell? ⟨g, off + (k * 11) + 9, none⟩ = some (.int .i64 0) := hcell k hlt 9 (by omega)
      have q10 : wr.cell? ⟨g, off + (k * 11) + 10, none⟩ = some (.slice none 0 0) := hcell k hlt 10 (by omega)
      clear hcell
      have HN := Lib.hid (fun (q : Nat) (v' : Value) (w1 : World) ho hq hg => WtRel.next (s := s) (h := h) (r := r) (q := q) (v := v') (w := w) (w1 := w1) hlt ho HF.out hq hg)
      have hv : wv (s k) (h k) = if !inF (s k) || !inF (h k) then none else if h k = 0 then some 9218868437227405312 else if h k < s k then none else some (floatOfInt .f64 (h k - s k)) := rfl
      generalize s k = x at *
      generalize h k = y at *
      have HV := Lib.hid hv
      clear hv
      go_wp2_with fail
      obtain ⟨w1, HW1⟩ : ∃ w1, Hid (wr.alloc (.cells #[.int .i64 0, .int .i64 0, .int .i64 0, .int .i64 0, .string { data := #[] }, .int .i64 x, .int .i64 y, .int .i64 0, .int .i64 0, .int .i64 0, .slice none 0 0] 55) = w1) := ⟨_, rfl⟩
      rw [HW1.out]
      have hblk : Blk w1 wr.heap.size 55 #[.int .i64 0, .int .i64 0, .int .i64 0, .int .i64 0, .string { data := #[] }, .int .i64 x, .int .i64 y, .int .i64 0, .int .i64 0, .int .i64 0, .slice none 0 0] := by rw [← HW1.out]; exact Blk.new _ _ _
      have p5 : w1.cell? ⟨wr.heap.size, 5, none⟩ = some (.int .i64 x) := hblk.cell 5
      have p6 : w1.cell? ⟨wr.heap.size, 6, none⟩ = some (.int .i64 y) := hblk.cell 6
      have HO1 : Hid (w1.ownsRow w.heap.size 28 1 u3 k (fsL r k)) := by rw [← HW1.out]; exact HO.out.alloc _
      have HG1 : Hid (w.grownBy w1 none) := by rw [← HW1.out]; exact only_alloc HG.out _
      have hsz1 : w.heap.size ≤ w1.heap.size := HG1.out.size
      clear hblk HO HG HW1 q0 q1 q2 q3 q4 q5 q6 q7 q8 q9 q10
      have hin : ∀ n : Int, inF n = true → 0 ≤ n ∧ n ≤ 2305843009213693952 := fun n h => by unfold inF at h; simpa using h
      rcases hx : inF x with _ | _
      · have HQ : Hid (Fits (wv x y) 9221120237041090561) := by rw [HV.out, hx]; exact ⟨by omega, show isN 9221120237041090561 = true by decide⟩
        refine (within_any _ _).mono ?_
        rw [hx]
        rintro e w9 ⟨rfl, rfl⟩
        go_wp2_with fail
        refine (mnan_any _).mono ?_
        rintro e w9 ⟨rfl, rfl⟩
        go_wp2_with (at_builtin; refine wpList_append1 rfl (.tmp 44) (.tmp 46) 25 rfl w.heap.size 28 (.float .f64 0) 8 Try.underlying25 infoF rfl _ k _ rfl w1 HO1.out _ rfl rfl rfl (by omega) (by omega) hsz1 ?_; intro v' w2 hw2 hg2 hat; have HR := Lib.hid (HN.out _ v' w2 hw2 HQ.out (grow_own HG1.out hg2 (own_ge HO1.out))); clear hw2 hg2 hat)
        exact ⟨HR.out, by simp [intOf]; omega⟩
      · have hx2 := hin x hx
        refine (within_any _ _).mono ?_
        rw [hx]
        rintro e w9 ⟨rfl, rfl⟩
        go_wp2_with fail
        rcases hy : inF y with _ | _
        · have HQ : Hid (Fits (wv x y) 9221120237041090561) := by rw [HV.out, hx, hy]; exact ⟨by omega, show isN 9221120237041090561 = true by decide⟩
          refine (within_any _ _).mono ?_
          rw [hy]
          rintro e w9 ⟨rfl, rfl⟩
          go_wp2_with fail
          refine (mnan_any _).mono ?_
          rintro e w9 ⟨rfl, rfl⟩
          go_wp2_with (at_builtin; refine wpList_append1 rfl (.tmp 44) (.tmp 46) 25 rfl w.heap.size 28 (.float .f64 0) 8 Try.underlying25 infoF rfl _ k _ rfl w1 HO1.out _ rfl rfl rfl (by omega) (by omega) hsz1 ?_; intro v' w2 hw2 hg2 hat; have HR := Lib.hid (HN.out _ v' w2 hw2 HQ.out (grow_own HG1.out hg2 (own_ge HO1.out))); clear hw2 hg2 hat)
          exact ⟨HR.out, by simp [intOf]; omega⟩
        · have hy2 := hin y hy
          refine (within_any _ _).mono ?_
          rw [hy]
          rintro e w9 ⟨rfl, rfl⟩
          by_cases h0 : y = 0
          · have HQ : Hid (Fits (wv x y) 9218868437227405312) := by rw [HV.out, hx, hy, if_neg (by simp), if_pos h0]; exact ⟨by omega, rfl⟩
            subst h0
            go_wp2_with fail
            refine (pinf_any _).mono ?_
            rintro e w9 ⟨rfl, rfl⟩
            go_wp2_with (at_builtin; refine wpList_append1 rfl (.tmp 52) (.tmp 54) 25 rfl w.heap.size 28 (.float .f64 0) 8 Try.underlying25 infoF rfl _ k _ rfl w1 HO1.out _ rfl rfl rfl (by omega) (by omega) hsz1 ?_; intro v' w2 hw2 hg2 hat; have HR := Lib.hid (HN.out _ v' w2 hw2 HQ.out (grow_own HG1.out hg2 (own_ge HO1.out))); clear hw2 hg2 hat)
            exact ⟨HR.out, by simp [intOf]; omega⟩
          · have h0' : (y == 0) = false := by simpa using h0
            have h0'' : (y != 0) = true := by simpa using h0
            by_cases h1 : y < x
            · have HQ : Hid (Fits (wv x y) 9221120237041090561) := by rw [HV.out, hx, hy, if_neg (by simp), if_neg h0, if_pos h1]; exact ⟨by omega, show isN 9221120237041090561 = true by decide⟩
              have h1' : decide (y < x) = true := decide_eq_true h1
              go_wp2_with fail
              refine (mnan_any _).mono ?_
              rintro e w9 ⟨rfl, rfl⟩
              go_wp2_with (at_builtin; refine wpList_append1 rfl (.tmp 44) (.tmp 46) 25 rfl w.heap.size 28 (.float .f64 0) 8 Try.underlying25 infoF rfl _ k _ rfl w1 HO1.out _ rfl rfl rfl (by omega) (by omega) hsz1 ?_; intro v' w2 hw2 hg2 hat; have HR := Lib.hid (HN.out _ v' w2 hw2 HQ.out (grow_own HG1.out hg2 (own_ge HO1.out))); clear hw2 hg2 hat)
              exact ⟨HR.out, by simp [intOf]; omega⟩
            · have HQ : Hid (Fits (wv x y) (floatOfInt .f64 (y - x))) := by rw [HV.out, hx, hy, if_neg (by simp), if_neg h0, if_neg h1]; exact fits_int _
              have h1' : decide (y < x) = false := decide_eq_false h1
              go_wp2_with (at_builtin; refine wpList_append1 rfl (.tmp 12) (.tmp 19) 25 rfl w.heap.size 28 (.float .f64 0) 8 Try.underlying25 infoF rfl _ k _ rfl w1 HO1.out _ rfl rfl rfl (by omega) (by omega) hsz1 ?_; intro v' w2 hw2 hg2 hat; have HR := Lib.hid (HN.out _ v' w2 hw2 HQ.out (grow_own HG1.out hg2 (own_ge HO1.out))); clear hw2 hg2 hat)
              exact ⟨HR.out, by simp [intOf]; omega⟩
    · have : k = len := by omega
      subst this
      obtain ⟨a', c', rfl, h3⟩ := own_fs HO.out (fun i hi => (HF.out i hi).1) (by omega)
      have H3 := Lib.hid h3
      clear h3 HO
      go_wp2_with fail
      go_ret
      exact ⟨_, _, r, rfl, H3.out, HF.out, HG.out⟩
set_option maxRecDepth 100000 in
set_option maxHeartbeats 4000000 in
theorem rwaits_any (a : Option Addr) (len cap : Nat) (s h : Nat → Int) (w : World) (H : IsSd w a len s h) (hlen : len ≤ 1000) :
    Calls Try.prog 25 #[.slice a len cap] w fun e w' => ∃ a' cap' r, e = .returned (.slice a' len cap') ∧ IsFs w' a' len r ∧ (∀ i, i < len → Fits (wv (s i) (h i)) (r i)) ∧ w.grownBy w' none := by
  have HH := Lib.hid H
  have HS : Hid (WtRel s h len w (.slice none 0 0) (.int .i64 0) w) := ⟨0, fun _ => 0, by omega, rfl, World.ownsRow_nil _ _ _ _, fun i hi => by omega, only_refl _ _⟩
  clear H
  go_enter Try.func25, Try.ntmps25
  go_wp2_with fail
  go_loopw [3, 4] (fun v i wr => WtRel s h len w v i wr) (fun _ i _ => len - (intOf i).toNat)
  case atStart => exact HS.out
  case round =>
    clear HS
    obtain ⟨k, r, hk, rfl, ho, hf, hg⟩ := hrel
    have HO := Lib.hid ho
    have HG := Lib.hid hg
    have HF := Lib.hid hf
    have hsz : w.heap.size ≤ wr.heap.size := hg.size
    clear ho hf hg
    by_cases hlt : k < len
    · obtain ⟨g, off, rfl, hglt, hcell⟩ := (HH.out.kept HG.out).2 (by omega)
      have hi0 : (0 : Int) ≤ (k : Int) := by omega
      have hi1 : (k : Int) < (len : Int) := by omega
      have q0 : wr.cell? ⟨g, off + (k * 11), none⟩ = some (.int .i64 0) := hcell k hlt 0 (by omega)
      have q1 : wr.cell? ⟨g, off + (k * 11) + 1, none⟩ = some (.int .i64 0) := hcell k hlt 1 (by omega)
      have q2 : wr.cell? ⟨g, off + (k * 11) + 2, none⟩ = some (.int .i64 0) := hcell k hlt 2 (by omega)
      have q3 : wr.cell? ⟨g, off + (k * 11) + 3, none⟩ = some (.int .i64 0) := hcell k hlt 3 (by omega)
      have q4 : wr.cell? ⟨g, off + (k * 11) + 4, none⟩ = some (.string { data := #[] }) := hcell k hlt 4 (by omega)
      have q5 : wr.cell? ⟨g, off + (k * 11) + 5, none⟩ = some (.int .i64 (s k)) := hcell k hlt 5 (by omega)
      have q6 : wr.cell? ⟨g, off + (k * 11) + 6, none⟩ = some (.int .i64 (h k)) := hcell k hlt 6 (by omega)
      have q7 : wr.cell? ⟨g, off + (k * 11) + 7, none⟩ = some (.int .i64 0) := hcell k hlt 7 (by omega)
      have q8 : wr.cell? ⟨g, off + (k * 11) + 8, none⟩ = some (.int .i64 0) := hcell k hlt 8 (by omega)
      have q9 : wr.cell? ⟨g, off + (k * 11) + 9, none⟩ = some (.int .i64 0) := hcell k hlt 9 (by omega)
      have q10 : wr.cell? ⟨g, off + (k * 11) + 10, none⟩ = some (.slice none 0 0) := hcell k hlt 10 (by omega)
      clear hcell
      have HN := Lib.hid (fun (q : Nat) (v' : Value) (w1 : World) ho hq hg => WtRel.next (s := s) (h := h) (r := r) (q := q) (v := v') (w := w) (w1 := w1) hlt ho HF.out hq hg)
      have hv : wv (s k) (h k) = if !inF (s k) || !inF (h k) then none else if h k = 0 then some 9218868437227405312 else if h k < s k then none else some (floatOfInt .f64 (h k - s k)) := rfl
      generalize s k = x at *
      generalize h k = y at *
      have HV := Lib.hid hv
      clear hv
      go_wp2_with fail
      obtain ⟨w1, HW1⟩ : ∃ w1, Hid (wr.alloc (.cells #[.int .i64 0, .int .i64 0, .int .i64 0, .int .i64 0, .string { data := #[] }, .int .i64 x, .int .i64 y, .int .i64 0, .int .i64 0, .int .i64 0, .slice none 0 0] 55) = w1) := ⟨_, rfl⟩
      rw [HW1.out]
      have hblk : Blk w1 wr.heap.size 55 #[.int .i64 0, .int .i64 0, .int .i64 0, .int .i64 0, .string { data := #[] }, .int .i64 x, .int .i64 y, .int .i64 0, .int .i64 0, .int .i64 0, .slice none 0 0] := by rw [← HW1.out]; exact Blk.new _ _ _
      have p5 : w1.cell? ⟨wr.heap.size, 5, none⟩ = some (.int .i64 x) := hblk.cell 5
      have p6 : w1.cell? ⟨wr.heap.size, 6, none⟩ = some (.int .i64 y) := hblk.cell 6
      have HO1 : Hid (w1.ownsRow w.heap.size 28 1 u3 k (fsL r k)) := by rw [← HW1.out]; exact HO.out.alloc _
      have HG1 : Hid (w.grownBy w1 none) := by rw [← HW1.out]; exact only_alloc HG.out _
      have hsz1 : w.heap.size ≤ w1.heap.size := HG1.out.size
      clear hblk HO HG HW1 q0 q1 q2 q3 q4 q5 q6 q7 q8 q9 q10
      have hin : ∀ n : Int, inF n = true → 0 ≤ n ∧ n ≤ 2305843009213693952 := fun n h => by unfold inF at h; simpa using h
      rcases hx : inF x with _ | _
      · have HQ : Hid (wv x y = none) := by rw [HV.out, hx]; rfl
        refine (entry_any _ _).mono ?_
        rw [hx]
        rintro e w9 ⟨rfl, rfl⟩
        go_wp2_with fail
        refine (none_any _).mono ?_
        rintro e w3 ⟨q, n, rfl, hw3, hf3⟩
        have HO3 : Hid (w3.ownsRow w.heap.size 28 1 u3 k (fsL r k)) := by rw [hw3]; exact HO1.out
        have HG3 : Hid (w.grownBy w3 none) := by rw [hw3]; exact only_drewN HG1.out _
        have hsz3 : w.heap.size ≤ w3.heap.size := HG3.out.size
        have HQ3 : Hid (Fits (wv x y) q) := by rw [HQ.out]; exact hf3
        clear hw3 hf3 HO1 HG1
        go_wp2_with (at_builtin; refine wpList_append1 rfl (.tmp 36) (.tmp 38) 25 rfl w.heap.size 28 (.float .f64 0) 8 Try.underlying25 infoF rfl _ k _ rfl w3 HO3.out _ rfl rfl rfl (by omega) (by omega) hsz3 ?_; intro v' w2 hw2 hg2 hat; have HR := Lib.hid (HN.out _ v' w2 hw2 HQ3.out (grow_own HG3.out hg2 (own_ge HO3.out))); clear hw2 hg2 hat)
        exact ⟨HR.out, by simp [intOf]; omega⟩
      · have hx2 := hin x hx
        refine (entry_any _ _).mono ?_
        rw [hx]
        rintro e w9 ⟨rfl, rfl⟩
        go_wp2_with fail
        rcases hy : inF y with _ | _
        · have HQ : Hid (wv x y = none) := by rw [HV.out, hx, hy]; rfl
          refine (entry_any _ _).mono ?_
          rw [hy]
          rintro e w9 ⟨rfl, rfl⟩
          go_wp2_with fail
          refine (none_any _).mono ?_
          rintro e w3 ⟨q, n, rfl, hw3, hf3⟩
          have HO3 : Hid (w3.ownsRow w.heap.size 28 1 u3 k (fsL r k)) := by rw [hw3]; exact HO1.out
          have HG3 : Hid (w.grownBy w3 none) := by rw [hw3]; exact only_drewN HG1.out _
          have hsz3 : w.heap.size ≤ w3.heap.size := HG3.out.size
          have HQ3 : Hid (Fits (wv x y) q) := by rw [HQ.out]; exact hf3
          clear hw3 hf3 HO1 HG1
          go_wp2_with (at_builtin; refine wpList_append1 rfl (.tmp 36) (.tmp 38) 25 rfl w.heap.size 28 (.float .f64 0) 8 Try.underlying25 infoF rfl _ k _ rfl w3 HO3.out _ rfl rfl rfl (by omega) (by omega) hsz3 ?_; intro v' w2 hw2 hg2 hat; have HR := Lib.hid (HN.out _ v' w2 hw2 HQ3.out (grow_own HG3.out hg2 (own_ge HO3.out))); clear hw2 hg2 hat)
          exact ⟨HR.out, by simp [intOf]; omega⟩
        · have hy2 := hin y hy
          refine (entry_any _ _).mono ?_
          rw [hy]
          rintro e w9 ⟨rfl, rfl⟩
          by_cases h0 : y = 0
          · have HQ : Hid (Fits (wv x y) 9218868437227405312) := by rw [HV.out, hx, hy, if_neg (by simp), if_pos h0]; exact ⟨by omega, rfl⟩
            subst h0
            go_wp2_with fail
            refine (end_any _).mono ?_
            rintro e w9 ⟨rfl, rfl⟩
            go_wp2_with (at_builtin; refine wpList_append1 rfl (.tmp 44) (.tmp 46) 25 rfl w.heap.size 28 (.float .f64 0) 8 Try.underlying25 infoF rfl _ k _ rfl w1 HO1.out _ rfl rfl rfl (by omega) (by omega) hsz1 ?_; intro v' w2 hw2 hg2 hat; have HR := Lib.hid (HN.out _ v' w2 hw2 HQ.out (grow_own HG1.out hg2 (own_ge HO1.out))); clear hw2 hg2 hat)
            exact ⟨HR.out, by simp [intOf]; omega⟩
          · have h0' : (y == 0) = false := by simpa using h0
            by_cases h1 : y < x
            · have HQ : Hid (wv x y = none) := by rw [HV.out, hx, hy, if_neg (by simp), if_neg h0, if_pos h1]; rfl
              have h1' : decide (y < x) = true := decide_eq_true h1
              go_wp2_with fail
              refine (none_any _).mono ?_
              rintro e w3 ⟨q, n, rfl, hw3, hf3⟩
              have HO3 : Hid (w3.ownsRow w.heap.size 28 1 u3 k (fsL r k)) := by rw [hw3]; exact HO1.out
              have HG3 : Hid (w.grownBy w3 none) := by rw [hw3]; exact only_drewN HG1.out _
              have hsz3 : w.heap.size ≤ w3.heap.size := HG3.out.size
              have HQ3 : Hid (Fits (wv x y) q) := by rw [HQ.out]; exact hf3
              clear hw3 hf3 HO1 HG1
              go_wp2_with (at_builtin; refine wpList_append1 rfl (.tmp 54) (.tmp 56) 25 rfl w.heap.size 28 (.float .f64 0) 8 Try.underlying25 infoF rfl _ k _ rfl w3 HO3.out _ rfl rfl rfl (by omega) (by omega) hsz3 ?_; intro v' w2 hw2 hg2 hat; have HR := Lib.hid (HN.out _ v' w2 hw2 HQ3.out (grow_own HG3.out hg2 (own_ge HO3.out))); clear hw2 hg2 hat)
              exact ⟨HR.out, by simp [intOf]; omega⟩
            · have HQ : Hid (Fits (wv x y) (floatOfInt .f64 (y - x))) := by rw [HV.out, hx, hy, if_neg (by simp), if_neg h0, if_neg h1]; exact fits_int _
              have h1' : decide (y < x) = false := decide_eq_false h1
              go_wp2_with (at_builtin; refine wpList_append1 rfl (.tmp 16) (.tmp 23) 25 rfl w.heap.size 28 (.float .f64 0) 8 Try.underlying25 infoF rfl _ k _ rfl w1 HO1.out _ rfl rfl rfl (by omega) (by omega) hsz1 ?_; intro v' w2 hw2 hg2 hat; have HR := Lib.hid (HN.out _ v' w2 hw2 HQ.out (grow_own HG1.out hg2 (own_ge HO1.out))); clear hw2 hg2 hat)
              exact ⟨HR.out, by simp [intOf]; omega⟩
    · have : k = len := by omega
      subst this
      obtain ⟨a', c', rfl, h3⟩ := own_fs HO.out (fun i hi => (HF.out i hi).1) (by omega)
      have H3 := Lib.hid h3
      clear h3 HO
      go_wp2_with fail
      go_ret
      exact ⟨_, _, r, rfl, H3.out, HF.out, HG.out⟩
end Go.Proofs.Ytpjefioopbnolaa
