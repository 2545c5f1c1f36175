/- The contracts of the document's clocks: New, Set, Now, Pass. -/
import Derived.Test.YtmlcjmgclfgbiaaRows
import Derived.WalkKit
import Derived.WalkSpells
import Derived.WalkLawsBesides
import Derived.Handy
import Derived.Outline
import Derived.RegionTactic
import Derived.StillTailTactics
import Derived.Test.YtmlcjmgclfgbiaaMem
import Derived.Test.YtmlcjmgclfgbiaaFl
import Derived.Test.YtmlcjmgclfgbiaaFlRun
import Derived.Test.YtmlcjmgclfgbiaaClean
import Derived.Test.YtmlcjmgclfgbiaaMove
import Derived.Test.YtmlcjmgclfgbiaaCopy
import Derived.Test.YtmlcjmgclfgbiaaHand
import Derived.Test.YtmlcjmgclfgbiaaTwo
import Derived.Test.YtmlcjmgclfgbiaaClkA
import Derived.Test.YtmlcjmgclfgbiaaClk
import Derived.Test.YtmlcjmgclfgbiaaPassC
namespace Go.Proofs.Ytmlcjmgclfgbiaa
open Go.RowKit
set_option linter.unusedVariables false

open Fl
/-- The document's clocks in memory. -/
def RefIs (w : World) (g sb rb n : Nat) (nw : Nat → Int) (r : Nat → Nat) (ref worst : Int) : Prop :=
  Blk w g 64 #[.slice (some ⟨sb, 0, none⟩) n n, .slice (some ⟨rb, 0, none⟩) n n, .int .i64 ref, .int .i64 worst] ∧ Blk w sb 3 (intA nw n) ∧ Blk w rb 23 (fltA r n)
theorem infoF : (Try.prog.info? 23).map (fun i => (i.zero, i.size, i.bytes)) = some (some (.float .f64 0), 1, 8) := by kernel_rfl
theorem make_flts (W : World) (n : Nat) (hn : n ≤ 1000) : (Instr.makeSlice 33 (.int .i64 n) (.int .i64 n)).run Try.prog W = .ok (.slice (some ⟨W.heap.size, 0, none⟩) n n) (W.alloc (.cells (fltA (fun _ => 0) n) 23)) := by
  obtain ⟨i0, hi, hz0, hz1, hz2⟩ := info_parts infoF
  have h := run_make (P := Try.prog) W 33 23 i0 _ Try.underlying33 hi hz0 .i64 .i64 n n (by omega) (by omega) (by rw [hz2]; omega) (by omega)
  rw [hz1] at h
  simp only [Int.toNat_natCast, made_flt] at h
  exact h
def RNewRel (g sb rb n : Nat) (w : World) (v : Value) (wr : World) : Prop :=
  ∃ k : Nat, k ≤ n ∧ v = .int .i64 k ∧ RefIs wr g sb rb n (fun _ => 0) (rF k) 0 0 ∧ w.grownBy wr none
theorem rfl0 (c : Nat) : fltA (rF 0) c = fltA (fun _ => 0) c := by unfold rF; rfl
theorem rF_succ (k c : Nat) : (fltA (rF k) c).setIfInBounds k (.float .f64 4607182418800017408) = fltA (rF (k + 1)) c := by
  rw [fltA_set]; congr 1; funext i; unfold upd rF
  by_cases e : i = k
  · subst e; simp
  · by_cases h : i < k
    · simp [e, h, show i < k + 1 by omega]
    · simp [e, h, show ¬ i < k + 1 by omega]
theorem rF_all (c : Nat) : fltA (fun _ => 4607182418800017408) c = fltA (rF c) c := by
  apply Array.ext_getElem?
  intro j
  rw [fltA_get, fltA_get]
  by_cases h : j < c
  · rw [if_pos h, if_pos h]; unfold rF; rw [if_pos h]
  · rw [if_neg h, if_neg h]
set_option maxHeartbeats 1000000 in
theorem rnew_any (n : Int) (w : World) :
    Calls Try.prog 36 #[.int .i64 n] w fun e w' => ∃ g sb rb, e = .returned (.pointer (some ⟨g, 0, none⟩)) ∧ RefIs w' g sb rb (countF n) (fun _ => 0) (fun _ => 4607182418800017408) 0 0 ∧ w.grownBy w' none ∧ w.heap.size ≤ g ∧ w.heap.size ≤ sb ∧ w.heap.size ≤ rb := by
  have hc := countF_le n
  obtain ⟨a, ha⟩ : ∃ a, (if n < 0 then 0 else n) = a := ⟨_, rfl⟩
  obtain ⟨b, hb⟩ : ∃ b, (if 15 < a then 15 else a) = b := ⟨_, rfl⟩
  have hbc : b = (countF n : Int) := by unfold countF; omega
  obtain ⟨c, hcc⟩ : ∃ c, countF n = c := ⟨_, rfl⟩
  rw [hcc] at hbc hc ⊢
  subst hbc
  clear hcc
  have mk1 := fun W => make_ints W c (by omega)
  have mk2 := fun W => make_flts W c (by omega)
  have hst := run_store_float Try.prog
  have HS1 : Hid (RNewRel (w.heap.size + 1 + 1) (w.heap.size) (w.heap.size + 1) c w (.int .i64 0) ((((w.alloc (.cells (intA (fun _ => 0) c) 3)).alloc (.cells (fltA (fun _ => 0) c) 23)).alloc (.cells #[.slice (some ⟨w.heap.size, 0, none⟩) c c, .slice (some ⟨w.heap.size + 1, 0, none⟩) c c, .int .i64 0, .int .i64 0] 64)).drew)) :=
    ⟨0, by omega, rfl, ⟨by simpa using (Blk.new ((w.alloc (.cells (intA (fun _ => 0) c) 3)).alloc (.cells (fltA (fun _ => 0) c) 23)) 64 #[.slice (some ⟨w.heap.size, 0, none⟩) c c, .slice (some ⟨w.heap.size + 1, 0, none⟩) c c, .int .i64 0, .int .i64 0]).drew, Blk.drew (by simpa using ((Blk.new w 3 (intA (fun _ => 0) c)).alloc (.cells (fltA (fun _ => 0) c) 23)).alloc _), by rw [show fltA (rF 0) c = fltA (fun _ => 0) c from rfl0 c]; exact Blk.drew (by simpa using (Blk.new (w.alloc (.cells (intA (fun _ => 0) c) 3)) 23 (fltA (fun _ => 0) c)).alloc _)⟩, only_drew (only_alloc (only_alloc (World.grownBy_alloc _ _ _) _) _)⟩
  have HS2 : Hid (RNewRel (w.heap.size + 1 + 1) (w.heap.size + 1) (w.heap.size) c w (.int .i64 0) ((((w.alloc (.cells (fltA (fun _ => 0) c) 23)).alloc (.cells (intA (fun _ => 0) c) 3)).alloc (.cells #[.slice (some ⟨w.heap.size + 1, 0, none⟩) c c, .slice (some ⟨w.heap.size, 0, none⟩) c c, .int .i64 0, .int .i64 0] 64)).drew)) :=
    ⟨0, by omega, rfl, ⟨by simpa using (Blk.new ((w.alloc (.cells (fltA (fun _ => 0) c) 23)).alloc (.cells (intA (fun _ => 0) c) 3)) 64 #[.slice (some ⟨w.heap.size + 1, 0, none⟩) c c, .slice (some ⟨w.heap.size, 0, none⟩) c c, .int .i64 0, .int .i64 0]).drew, Blk.drew (by simpa using (Blk.new (w.alloc (.cells (fltA (fun _ => 0) c) 23)) 3 (intA (fun _ => 0) c)).alloc _), by rw [show fltA (rF 0) c = fltA (fun _ => 0) c from rfl0 c]; exact Blk.drew (by simpa using ((Blk.new w 23 (fltA (fun _ => 0) c)).alloc (.cells (intA (fun _ => 0) c) 3)).alloc _)⟩, only_drew (only_alloc (only_alloc (World.grownBy_alloc _ _ _) _) _)⟩
  go_enter Try.func36, Try.ntmps36
  go_wp2_with fail
  go_region
  all_goals go_wp2_with fail
  · go_loopw [4] (fun v wr => RNewRel (w.heap.size + 1 + 1) (w.heap.size) (w.heap.size + 1) c w v wr) (fun v _ => c - (intOf v).toNat)
    case atStart => exact HS1.out
    case round =>
      clear HS1 HS2
      obtain ⟨k, hk, rfl, ⟨hT, hS, hR⟩, hg⟩ := hrel
      have c1 : wr.cell? ⟨w.heap.size + 1 + 1, 1, none⟩ = some (.slice (some ⟨w.heap.size + 1, 0, none⟩) c c) := hT.cell 1
      have HT := Lib.hid hT
      have HSb := Lib.hid hS
      have HR := Lib.hid hR
      have HG := Lib.hid hg
      clear hT hS hR hg
      by_cases hlt : k < c
      · have c2 : wr.cell? ⟨w.heap.size + 1, k, none⟩ = some (.float .f64 0) := (HR.out.cell k).trans (by rw [fltA_get, if_pos hlt]; unfold rF; rw [if_neg (Nat.lt_irrefl k)])
        have f2 : wr.frozen? ⟨w.heap.size + 1, k, none⟩ = false := HR.out.free _
        have hi0 : (0 : Int) ≤ (k : Int) := by omega
        have hi1 : (k : Int) < (c : Int) := by omega
        have HN : Hid (RNewRel (w.heap.size + 1 + 1) (w.heap.size) (w.heap.size + 1) c w (.int .i64 ((k : Int) + 1)) (wr.setCell ⟨w.heap.size + 1, k, none⟩ (.float .f64 4607182418800017408))) :=
          ⟨k + 1, by omega, by go_num, ⟨HT.out.far _ _ _ (by omega), HSb.out.far _ _ _ (by omega), by rw [← rF_succ]; exact HR.out.set k _⟩, none_set HG.out _ _ _ (by omega)⟩
        go_wp2_with fail
        exact ⟨HN.out, by simp [intOf]; omega⟩
      · have : k = c := by omega
        subst this
        go_wp2_with fail
        go_ret
        exact ⟨_, _, _, rfl, ⟨HT.out, HSb.out, by rw [rF_all]; exact HR.out⟩, HG.out, by omega, by omega, by omega⟩
  · go_loopw [4] (fun v wr => RNewRel (w.heap.size + 1 + 1) (w.heap.size + 1) (w.heap.size) c w v wr) (fun v _ => c - (intOf v).toNat)
    case atStart => exact HS2.out
    case round =>
      clear HS1 HS2
      obtain ⟨k, hk, rfl, ⟨hT, hS, hR⟩, hg⟩ := hrel
      have c1 : wr.cell? ⟨w.heap.size + 1 + 1, 1, none⟩ = some (.slice (some ⟨w.heap.size, 0, none⟩) c c) := hT.cell 1
      have HT := Lib.hid hT
      have HSb := Lib.hid hS
      have HR := Lib.hid hR
      have HG := Lib.hid hg
      clear hT hS hR hg
      by_cases hlt : k < c
      · have c2 : wr.cell? ⟨w.heap.size, k, none⟩ = some (.float .f64 0) := (HR.out.cell k).trans (by rw [fltA_get, if_pos hlt]; unfold rF; rw [if_neg (Nat.lt_irrefl k)])
        have f2 : wr.frozen? ⟨w.heap.size, k, none⟩ = false := HR.out.free _
        have hi0 : (0 : Int) ≤ (k : Int) := by omega
        have hi1 : (k : Int) < (c : Int) := by omega
        have HN : Hid (RNewRel (w.heap.size + 1 + 1) (w.heap.size + 1) (w.heap.size) c w (.int .i64 ((k : Int) + 1)) (wr.setCell ⟨w.heap.size, k, none⟩ (.float .f64 4607182418800017408))) :=
          ⟨k + 1, by omega, by go_num, ⟨HT.out.far _ _ _ (by omega), HSb.out.far _ _ _ (by omega), by rw [← rF_succ]; exact HR.out.set k _⟩, none_set HG.out _ _ _ (by omega)⟩
        go_wp2_with fail
        exact ⟨HN.out, by simp [intOf]; omega⟩
      · have : k = c := by omega
        subst this
        go_wp2_with fail
        go_ret
        exact ⟨_, _, _, rfl, ⟨HT.out, HSb.out, by rw [rF_all]; exact HR.out⟩, HG.out, by omega, by omega, by omega⟩

section
variable {g sb rb n : Nat} {nw : Nat → Int} {r : Nat → Nat} {ref worst : Int} {w : World}
theorem RefIs.ne (h : RefIs w g sb rb n nw r ref worst) : g ≠ sb ∧ g ≠ rb ∧ sb ≠ rb := ⟨h.1.ne h.2.1 (by decide), h.1.ne h.2.2 (by decide), h.2.1.ne h.2.2 (by decide)⟩
theorem RefIs.kept {w' : World} {p q : Nat} (h : RefIs w g sb rb n nw r ref worst) (k : Only2 w w' p q) (h1 : g ≠ p ∧ g ≠ q) (h2 : sb ≠ p ∧ sb ≠ q) (h3 : rb ≠ p ∧ rb ≠ q) : RefIs w' g sb rb n nw r ref worst :=
  ⟨h.1.kept2 k h1.1 h1.2, h.2.1.kept2 k h2.1 h2.2, h.2.2.kept2 k h3.1 h3.2⟩
set_option maxHeartbeats 1000000 in
theorem rnow_yes (h : RefIs w g sb rb n nw r ref worst) (i : Nat) (hi : i < n) (hn : n ≤ 15) : Calls Try.prog 45 #[.pointer (some ⟨g, 0, none⟩), .int .i64 i] w fun e w' => e = .returned (.int .i64 (nw i)) ∧ w = w' := by
  have c0 : w.cell? ⟨g, 0, none⟩ = some (.slice (some ⟨sb, 0, none⟩) n n) := h.1.cell 0
  have c1 : w.cell? ⟨sb, i, none⟩ = some (.int .i64 (nw i)) := (h.2.1.cell i).trans (by rw [intA_get, if_pos hi])
  have hi0 : (0 : Int) ≤ (i : Int) := by omega
  have hi1 : (i : Int) < (n : Int) := by omega
  clear h
  go_enter Try.func45, Try.ntmps45
  go_wp2_with fail
  go_ret
  exact ⟨rfl, rfl⟩
set_option maxHeartbeats 1000000 in
theorem rnow_no (h : RefIs w g sb rb n nw r ref worst) (i : Int) (hi : i < 0 ∨ (n : Int) ≤ i) (hn : n ≤ 15) : Calls Try.prog 45 #[.pointer (some ⟨g, 0, none⟩), .int .i64 i] w fun e w' => e = .returned (.int .i64 0) ∧ w = w' := by
  have c0 : w.cell? ⟨g, 0, none⟩ = some (.slice (some ⟨sb, 0, none⟩) n n) := h.1.cell 0
  clear h
  by_cases h0 : i < 0
  · clear hi
    go_enter Try.func45, Try.ntmps45
    go_wp2_with fail
    go_ret
    exact ⟨rfl, rfl⟩
  · have h1 : (n : Int) ≤ i := by omega
    have h2 : 0 ≤ i := by omega
    clear hi h0
    go_enter Try.func45, Try.ntmps45
    go_wp2_with fail
    go_ret
    exact ⟨rfl, rfl⟩
set_option maxHeartbeats 1000000 in
theorem rset_no (h : RefIs w g sb rb n nw r ref worst) (i : Int) (x : Nat) (hi : i < 0 ∨ (n : Int) ≤ i) (hn : n ≤ 15) : Calls Try.prog 41 #[.pointer (some ⟨g, 0, none⟩), .int .i64 i, .float .f64 x] w fun e w' => e = .returned (.int .i64 6) ∧ w = w' := by
  have c0 : w.cell? ⟨g, 1, none⟩ = some (.slice (some ⟨rb, 0, none⟩) n n) := h.1.cell 1
  clear h
  by_cases h0 : i < 0
  · clear hi
    go_enter Try.func41, Try.ntmps41
    go_wp2_with fail
    go_ret
    exact ⟨rfl, rfl⟩
  · have h1 : (n : Int) ≤ i := by omega
    have h2 : 0 ≤ i := by omega
    clear hi h0
    go_enter Try.func41, Try.ntmps41
    go_wp2_with fail
    go_ret
    exact ⟨rfl, rfl⟩
set_option maxHeartbeats 1000000 in
theorem rset_yes (h : RefIs w g sb rb n nw r ref worst) (i : Nat) (x : Nat) (hi : i < n) (hn : n ≤ 15) : Calls Try.prog 41 #[.pointer (some ⟨g, 0, none⟩), .int .i64 i, .float .f64 x] w fun e w' => e = .returned (.int .i64 0) ∧ RefIs w' g sb rb n nw (upd r i (cl x)) ref worst ∧ w.grownBy w' (some rb) := by
  have c0 : w.cell? ⟨g, 1, none⟩ = some (.slice (some ⟨rb, 0, none⟩) n n) := h.1.cell 1
  have c1 : w.cell? ⟨rb, i, none⟩ = some (.float .f64 (r i)) := (h.2.2.cell i).trans (by rw [fltA_get, if_pos hi])
  have f1 : w.frozen? ⟨rb, i, none⟩ = false := h.2.2.free _
  have hi0 : (0 : Int) ≤ (i : Int) := by omega
  have hi1 : (i : Int) < (n : Int) := by omega
  have H := Lib.hid h
  have hst := run_store_float Try.prog
  clear h
  go_enter Try.func41, Try.ntmps41
  go_wp2_with fail
  refine wp_region_still_tail 8 (by kernel_rfl) (by kernel_rfl) ?_
  simp only [List.take_succ_cons, List.take_zero, List.drop_succ_cons, List.drop_zero]
  repeat (first | still_step | still_call (Calls.same (clean2_any _ _)))
  refine wpStill_nil ?_
  change wpList _ _ _ _ _ w.drew
  go_wp2_with fail
  go_ret
  exact ⟨rfl, ⟨H.out.1.drew.far _ _ _ H.out.ne.2.1, H.out.2.1.drew.far _ _ _ H.out.ne.2.2, by rw [← fltA_set]; exact H.out.2.2.drew.set _ _⟩, only_setCell (only_drew (only_refl _ _)) (.inl rfl) _⟩
end
theorem rpass_no (g : Nat) (n : Int) (w : World) (hn : n < 1 ∨ 1000 < n) :
    Calls Try.prog 38 #[.pointer (some ⟨g, 0, none⟩), .int .i64 n] w fun e w' => e = .returned (.tuple #[.slice none 0 0, .int .i64 1]) ∧ w = w' := by
  by_cases h1 : n < 1
  · clear hn
    go_enter Try.func38, Try.ntmps38
    go_wp2_with fail
    go_ret2
    exact ⟨rfl, rfl⟩
  · have h2 : 1000 < n := by omega
    have h3 : 1 ≤ n := by omega
    clear hn h1
    go_enter Try.func38, Try.ntmps38
    go_wp2_with fail
    go_ret2
    exact ⟨rfl, rfl⟩
def RPassRel (g sb rb c : Nat) (nw : Nat → Int) (r : Nat → Nat) (ref worst n : Int) (w : World) (v : Value) (wr : World) : Prop :=
  ∃ k : Nat, k ≤ c ∧ v = .int .i64 k ∧ RefIs wr g sb rb c (fun i => if i < k then nw i + mvI r n i else nw i) r ref (wF r n worst k) ∧ Blk wr w.heap.size 3 (intA (fun i => if i < k then mvI r n i else 0) c) ∧ Only2 w wr g sb
set_option maxHeartbeats 2000000 in
theorem rpass_yes (g sb rb c : Nat) (nw : Nat → Int) (r : Nat → Nat) (ref worst n : Int) (w : World) (h : RefIs w g sb rb c nw r ref worst) (hc : c ≤ 15) (hnw : ∀ i, i < c → 0 ≤ nw i ∧ nw i ≤ 1000000000000) (hr : ∀ i, i < c → r i < 18446744073709551616)
    (hf : 0 ≤ ref ∧ ref ≤ 1000000000000) (hw : 0 ≤ worst ∧ worst ≤ 1001) (h1 : 1 ≤ n) (h2 : n ≤ 1000) :
    Calls Try.prog 38 #[.pointer (some ⟨g, 0, none⟩), .int .i64 n] w fun e w' => e = .returned (.tuple #[.slice (some ⟨w.heap.size, 0, none⟩) c c, .int .i64 0]) ∧ RefIs w' g sb rb c (fun i => nw i + mvI r n i) r (ref + n) (wF r n worst c) ∧ Blk w' w.heap.size 3 (intA (mvI r n) c) ∧ Only2 w w' g sb := by
  have H := Lib.hid h
  have Hnw := Lib.hid hnw
  have Hr := Lib.hid hr
  have c0 : w.cell? ⟨g, 1, none⟩ = some (.slice (some ⟨rb, 0, none⟩) c c) := h.1.cell 1
  have mk := fun W => make_ints W c (by omega)
  have hgl := h.1.lt
  have hsl := h.2.1.lt
  have hrl := h.2.2.lt
  have HS : Hid (RPassRel g sb rb c nw r ref worst n w (.int .i64 0) (w.alloc (.cells (intA (fun _ => 0) c) 3))) := ⟨0, by omega, rfl, ⟨h.1.alloc _, by simpa using h.2.1.alloc _, h.2.2.alloc _⟩, by simpa using Blk.new w 3 (intA (fun _ => 0) c), Only2.new (World.grownBy_alloc _ _ _)⟩
  clear h hnw hr
  go_enter Try.func38, Try.ntmps38
  go_wp2_with fail
  go_loopw [7] (fun v wr => RPassRel g sb rb c nw r ref worst n w v wr) (fun v _ => c - (intOf v).toNat)
  case atStart => exact HS.out
  case round =>
    clear HS c0
    obtain ⟨k, hk, rfl, hcl, hmb, ho⟩ := hrel
    have HC := Lib.hid hcl
    have HM := Lib.hid hmb
    have HO := Lib.hid ho
    have c0 : wr.cell? ⟨g, 1, none⟩ = some (.slice (some ⟨rb, 0, none⟩) c c) := hcl.1.cell 1
    obtain ⟨hgs, hgr, hsr⟩ := hcl.ne
    clear hcl hmb ho
    have hgm : g ≠ w.heap.size := by omega
    have hsm : sb ≠ w.heap.size := by omega
    have hrm : rb ≠ w.heap.size := by omega
    by_cases hlt : k < c
    · have c1 : wr.cell? ⟨rb, k, none⟩ = some (.float .f64 (r k)) := (HC.out.2.2.cell k).trans (by rw [fltA_get, if_pos hlt])
      have f1 : wr.frozen? ⟨w.heap.size, k, none⟩ = false := HM.out.free _
      have c3 : wr.cell? ⟨w.heap.size, k, none⟩ = some (.int .i64 0) := (HM.out.cell k).trans (by rw [intA_get, if_pos hlt, if_neg (Nat.lt_irrefl k)])
      have hi0 : (0 : Int) ≤ (k : Int) := by omega
      have hi1 : (k : Int) < (c : Int) := by omega
      have hrk := Hr.out k hlt
      have hmv := mvI_bd (n := n) hrk
      have em : (mv (r k) (clampN n) : Int) = mvI r n k := rfl
      obtain ⟨d, hd⟩ : ∃ d, (if mvI r n k - n < n - mvI r n k then n - mvI r n k else mvI r n k - n) = d := ⟨_, rfl⟩
      have hd1 : 0 ≤ d ∧ d ≤ 16000 := by omega
      have hz : (n == 0) = false := by rw [beq_eq_false_iff_ne]; omega
      have hq1 : 0 ≤ (1000 * d + n - 1) / n := Int.ediv_nonneg (by omega) (by omega)
      have hq2 : (1000 * d + n - 1) / n ≤ 1000 * d + n - 1 := Int.ediv_le_self _ (by omega)
      obtain ⟨l, hl⟩ : ∃ r, (if 1001 < (1000 * d + n - 1) / n then 1001 else (1000 * d + n - 1) / n) = r := ⟨_, rfl⟩
      have hl2 : leastF n (mvI r n k) = l := by
        unfold leastF
        rw [show max (mvI r n k - n) (n - mvI r n k) = d by omega]
        omega
      have HL := Lib.hid hl2
      clear hl2
      go_wp2_with fail
      refine (move2_any _ hrk _ _).mono ?_
      rw [em]
      rintro e w1 ⟨rfl, rfl⟩
      clear em
      go_wp2_with fail
      have hnk := Hnw.out k hlt
      have hwk := wF_bd (r := r) h1 hw.1 hw.2 k
      obtain ⟨w1, hw1⟩ : ∃ w1, wr.setCell ⟨w.heap.size, k, none⟩ (.int .i64 (mvI r n k)) = w1 := ⟨_, rfl⟩
      have hM1 : Blk w1 w.heap.size 3 (intA (fun i => if i < k + 1 then mvI r n i else 0) c) := by
        rw [← hw1]
        have := HM.out.set k (.int .i64 (mvI r n k))
        rw [intA_set] at this
        rw [intA_congr (g := upd (fun i => if i < k then mvI r n i else 0) k (mvI r n k)) (fun i hi => by unfold upd; by_cases e : i = k <;> simp [e]; by_cases e2 : i < k <;> simp [e2] <;> omega)]
        exact this
      have hO1 : Only2 w w1 g sb := by rw [← hw1]; exact HO.out.set' _ (.inr (.inr (Nat.le_refl _)))
      have hC1 : RefIs w1 g sb rb c (fun i => if i < k then nw i + mvI r n i else nw i) r ref (wF r n worst k) := by
        rw [← hw1]
        exact ⟨HC.out.1.far _ _ _ hgm, HC.out.2.1.far _ _ _ hsm, HC.out.2.2.far _ _ _ hrm⟩
      rw [hw1]
      have d0 : w1.cell? ⟨g, 0, none⟩ = some (.slice (some ⟨sb, 0, none⟩) c c) := hC1.1.cell 0
      have d1 : w1.cell? ⟨sb, k, none⟩ = some (.int .i64 (nw k)) := (hC1.2.1.cell k).trans (by rw [intA_get, if_pos hlt, if_neg (Nat.lt_irrefl k)])
      have d3 : w1.frozen? ⟨sb, k, none⟩ = false := hC1.2.1.free _
      have HC1 := Lib.hid hC1
      have HM1 := Lib.hid hM1
      have HO1 := Lib.hid hO1
      clear hC1 hM1 hO1 hw1 c0 c1 f1 c3 HC HM HO
      go_region
      go_wp2_with fail
      obtain ⟨w2, hw2⟩ : ∃ w2, (w1.setCell ⟨sb, k, none⟩ (.int .i64 (nw k + mvI r n k))).drew = w2 := ⟨_, rfl⟩
      have g2 : w1.grownBy w2 (some sb) := by rw [← hw2]; exact only_drew (only_setCell (only_refl _ _) (.inl rfl) _)
      have hM2 : Blk w2 w.heap.size 3 (intA (fun i => if i < k + 1 then mvI r n i else 0) c) := HM1.out.kept g2 (by intro e; injection e with e; exact hsm e.symm)
      have hT2 : Blk w2 g 64 #[.slice (some ⟨sb, 0, none⟩) c c, .slice (some ⟨rb, 0, none⟩) c c, .int .i64 ref, .int .i64 (wF r n worst k)] := HC1.out.1.kept g2 (by intro e; injection e with e; exact hgs e)
      have hR2 : Blk w2 rb 23 (fltA r c) := HC1.out.2.2.kept g2 (by intro e; injection e with e; exact hsr e.symm)
      have hH2 : Blk w2 sb 3 (intA (fun i => if i < k + 1 then nw i + mvI r n i else nw i) c) := by
        rw [← hw2]
        have := (HC1.out.2.1.set k (.int .i64 (nw k + mvI r n k))).drew
        rw [intA_set] at this
        rw [intA_congr (g := upd (fun i => if i < k then nw i + mvI r n i else nw i) k (nw k + mvI r n k)) (fun i hi => by unfold upd; by_cases e : i = k <;> simp [e]; by_cases e2 : i < k <;> simp [e2] <;> omega)]
        exact this
      have HO2 := Lib.hid (HO1.out.step g2 (.inr (.inl rfl)))
      rw [hw2]
      have q1 : w2.cell? ⟨g, 3, none⟩ = some (.int .i64 (wF r n worst k)) := hT2.cell 3
      have q3 : w2.frozen? ⟨g, 3, none⟩ = false := hT2.free _
      have HM2 := Lib.hid hM2
      have HT2 := Lib.hid hT2
      have HH2 := Lib.hid hH2
      have HR2 := Lib.hid hR2
      obtain ⟨x, hx⟩ : ∃ x, (if wF r n worst k < l then l else wF r n worst k) = x := ⟨_, rfl⟩
      have hx2 : wF r n worst (k + 1) = x := by show max _ (leastF n (mvI r n k)) = x; rw [HL.out]; omega
      have HN : ∀ W, (∃ m, W = (w2.setCell ⟨g, 3, none⟩ (.int .i64 x)).drewN m) → Hid (RPassRel g sb rb c nw r ref worst n w (.int .i64 ((k : Int) + 1)) W) := fun W ⟨m, hW⟩ => by
        subst hW
        exact ⟨k + 1, by omega, by go_num, ⟨by rw [hx2]; exact HT2.out.set 3 _, HH2.out.far _ _ _ (fun e => hgs e.symm), HR2.out.far _ _ _ (fun e => hgr e.symm)⟩, HM2.out.far _ _ _ (fun e => hgm e.symm), (HO2.out.set' (a := ⟨g, 3, none⟩) _ (.inl rfl)).trans (Only2.drewN _ m _ _)⟩
      clear hM2 hT2 hH2 hR2 hw2 g2 d1 d3 d0 hx2
      go_region
      all_goals go_wp2_with fail
      all_goals exact ⟨(HN _ ⟨1, rfl⟩).out, by simp [intOf]; omega⟩
    · have : k = c := by omega
      subst this
      have c1 : wr.cell? ⟨g, 2, none⟩ = some (.int .i64 ref) := HC.out.1.cell 2
      have f1 : wr.frozen? ⟨g, 2, none⟩ = false := HC.out.1.free 2
      go_wp2_with fail
      go_ret2
      refine ⟨rfl, ⟨HC.out.1.set 2 _, ?_, HC.out.2.2.far _ _ _ (fun e => hgr e.symm)⟩, ?_, HO.out.set' _ (.inl rfl)⟩
      · rw [intA_congr (g := fun i => if i < k then nw i + mvI r n i else nw i) (fun i hi => by rw [if_pos hi])]
        exact HC.out.2.1.far _ _ _ (fun e => hgs e.symm)
      · rw [intA_congr (g := fun i => if i < k then mvI r n i else 0) (fun i hi => by rw [if_pos hi])]
        exact HM.out.far _ _ _ (fun e => hgm e.symm)
end Go.Proofs.Ytmlcjmgclfgbiaa
