/- The contract of padlocklaw13.Conf: whatever numbers it is given, it makes a setting that may be. -/
import Derived.Test.YtdjfbojnobjfgaaRows
import Derived.WalkKit
import Derived.WalkSpells
import Derived.WalkLawsBesides
import Derived.Handy
import Derived.Test.YtdjfbojnobjfgaaMem
namespace Go.Proofs.Ytdjfbojnobjfgaa
open Go.RowKit
set_option linter.unusedVariables false

/-- A setting that may be, behind k numbers. -/
def GoodC (k : Nat) (c0 c1 c2 c3 c4 c5 c6 c7 c8 c9 c10 : Int) : Prop :=
  (c0 = 1 ∨ c0 = 3 ∨ c0 = 5 ∨ c0 = 7) ∧ 1 ≤ c1 ∧ c1 ≤ 8 ∧ 1 ≤ c2 ∧ c2 ≤ 1000 ∧ 0 ≤ c3 ∧ c3 ≤ 200 ∧ 1 ≤ c4 ∧ c4 ≤ 20 ∧ c4 ≤ c5 ∧ c5 ≤ 100 ∧ (k ≤ 3 → c5 = 40) ∧ 1 ≤ c6 ∧ c6 ≤ 100 ∧ 0 ≤ c7 ∧ c7 ≤ 100 ∧ 1 ≤ c8 ∧ c8 ≤ 100 ∧ 1 ≤ c9 ∧ c9 ≤ 100 ∧ 1 ≤ c10 ∧ c10 ≤ 100
def ConfRel (B len : Nat) (w : World) (i : Value) (wr : World) : Prop :=
  ∃ (k : Nat) (c0 c1 c2 c3 c4 c5 c6 c7 c8 c9 c10 : Int), k ≤ len ∧ k ≤ 11 ∧ i = .int .i64 k ∧ Blk wr (B + 1) 33 #[.int .i64 c0, .int .i64 c1, .int .i64 c2, .int .i64 c3, .int .i64 c4, .int .i64 c5, .int .i64 c6, .int .i64 c7, .int .i64 c8, .int .i64 c9, .int .i64 c10] ∧ GoodC k c0 c1 c2 c3 c4 c5 c6 c7 c8 c9 c10 ∧ Blk wr B 33 #[.int .i64 0, .int .i64 0, .int .i64 0, .int .i64 0, .int .i64 0, .int .i64 0, .int .i64 0, .int .i64 0, .int .i64 0, .int .i64 0, .int .i64 0] ∧ Below B w wr
def ConfPost (w : World) (e : Ending) (w' : World) : Prop :=
  ∃ (c0 c1 c2 c3 c4 c5 c6 c7 c8 c9 c10 : Int), e = .returned (.agg #[.int .i64 c0, .int .i64 c1, .int .i64 c2, .int .i64 c3, .int .i64 c4, .int .i64 c5, .int .i64 c6, .int .i64 c7, .int .i64 c8, .int .i64 c9, .int .i64 c10]) ∧ GoodC 11 c0 c1 c2 c3 c4 c5 c6 c7 c8 c9 c10 ∧ w.grownBy w' none

set_option maxRecDepth 100000 in
set_option maxHeartbeats 4000000 in
theorem conf_any (a0 : Option Addr) (len0 cap0 : Nat) (z0 : List Int) (w : World) (w0 : IsRow .u8 w a0 len0 cap0 z0) :
    Calls Try.prog 16 #[.slice a0 len0 cap0] w (ConfPost w) := by
  obtain ⟨hl, hwz, hc⟩ := w0.at
  clear w0
  have Hc := Lib.hid hc
  have Hwz := Lib.hid hwz
  clear hc hwz
  go_enter Try.func16, Try.ntmps16
  have Hs : Hid (ConfRel w.heap.size len0 w (.int .i64 0) ((w.alloc (.cells #[.int .i64 0, .int .i64 0, .int .i64 0, .int .i64 0, .int .i64 0, .int .i64 0, .int .i64 0, .int .i64 0, .int .i64 0, .int .i64 0, .int .i64 0] 33)).alloc (.cells #[.int .i64 3, .int .i64 3, .int .i64 60, .int .i64 100, .int .i64 10, .int .i64 40, .int .i64 3, .int .i64 1, .int .i64 5, .int .i64 6, .int .i64 8] 33))) :=
    ⟨0, 3, 3, 60, 100, 10, 40, 3, 1, 5, 6, 8, by omega, by omega, rfl, by simpa using Blk.new (w.alloc (.cells #[.int .i64 0, .int .i64 0, .int .i64 0, .int .i64 0, .int .i64 0, .int .i64 0, .int .i64 0, .int .i64 0, .int .i64 0, .int .i64 0, .int .i64 0] 33)) 33 #[.int .i64 3, .int .i64 3, .int .i64 60, .int .i64 100, .int .i64 10, .int .i64 40, .int .i64 3, .int .i64 1, .int .i64 5, .int .i64 6, .int .i64 8], by unfold GoodC; omega, (Blk.new _ _ _).alloc _, ((Below.refl _ _).alloc (Nat.le_refl _) _).alloc (by simp) _⟩
  go_wp2_with fail
  go_loopw [4] (fun i wr => ConfRel w.heap.size len0 w i wr) (fun i _ => 11 - (intOf i).toNat)
  case atStart => exact Hs.out
  case round =>
    clear Hs
    obtain ⟨k, c0, c1, c2, c3, c4, c5, c6, c7, c8, c9, c10, hk, hk11, rfl, hb, hgood, hbz, hbel⟩ := hrel
    have Hb := Lib.hid hb
    have Hbz := Lib.hid hbz
    have Hbel := Lib.hid hbel
    have Hg := Lib.hid hgood
    clear hb hbz hbel hgood
    by_cases hlt : k < len0 ∧ k < 11
    · obtain ⟨hlt, hlt2⟩ := hlt
      obtain ⟨b, off, ha, hblt, hcell⟩ := Hc.out (by omega)
      subst ha
      have hz := bounds_u8 (Hwz.out k hlt)
      have hc2 := row_below hcell Hbel.out hblt k hlt
      clear hcell
      have hi0 : (0 : Int) ≤ (k : Int) := by omega
      have hi1 : (k : Int) < (len0 : Int) := by omega
      have hks : k = 0 ∨ k = 1 ∨ k = 2 ∨ k = 3 ∨ k = 4 ∨ k = 5 ∨ k = 6 ∨ k = 7 ∨ k = 8 ∨ k = 9 ∨ k = 10 := by omega
      rcases hks with hk0 | hk0 | hk0 | hk0 | hk0 | hk0 | hk0 | hk0 | hk0 | hk0 | hk0
      · subst hk0
        have q0 : wr.cell? ⟨w.heap.size + 1, 0, none⟩ = some (.int .i64 c0) := Hb.out.cell 0
        have f0 : wr.frozen? ⟨w.heap.size + 1, 0, none⟩ = false := Hb.out.free 0
        rw [Nat.add_zero] at hc2
        have hr : zat z0 0 % 6 = 0 ∨ zat z0 0 % 6 = 1 ∨ zat z0 0 % 6 = 2 ∨ zat z0 0 % 6 = 3 ∨ zat z0 0 % 6 = 4 ∨ zat z0 0 % 6 = 5 := by omega
        rcases hr with hr | hr | hr | hr | hr | hr
        all_goals
          have q0' : ∀ c t, (wr.alloc (.cells c t)).cell? ⟨w.heap.size + 1, 0, none⟩ = some (.int .i64 c0) := fun c t => (Hb.out.alloc _).cell 0
          have f0' : ∀ c t, (wr.alloc (.cells c t)).frozen? ⟨w.heap.size + 1, 0, none⟩ = false := fun c t => (Hb.out.alloc _).free 0
          go_wp2_with fail
          refine ⟨?_, by simp [intOf]⟩
          exact ⟨1, _, c1, c2, c3, c4, c5, c6, c7, c8, c9, c10, by omega, by omega, rfl, (Hb.out.alloc _).set 0 _, by have := Hg.out; unfold GoodC at *; omega, (Hbz.out.alloc _).kept (only_setCell (only_refl _ _) (.inl rfl) _) (by simp), (Hbel.out.alloc Hbel.out.size _).setCell (by show w.heap.size ≤ w.heap.size + 1; omega) _⟩
      · subst hk0
        have q1 : wr.cell? ⟨w.heap.size + 1, 1, none⟩ = some (.int .i64 c1) := Hb.out.cell 1
        have f1 : wr.frozen? ⟨w.heap.size + 1, 1, none⟩ = false := Hb.out.free 1
        have HN : Hid (ConfRel w.heap.size len0 w (.int .i64 2) (wr.setCell ⟨w.heap.size + 1, 1, none⟩ (.int .i64 (1 + zat z0 1 % 5)))) :=
          ⟨2, c0, (1 + zat z0 1 % 5), c2, c3, c4, c5, c6, c7, c8, c9, c10, by omega, by omega, rfl, Hb.out.set 1 _, by have := Hg.out; unfold GoodC at *; omega, Hbz.out.kept (only_setCell (only_refl _ _) (.inl rfl) _) (by simp), Hbel.out.setCell (by show w.heap.size ≤ w.heap.size + 1; omega) _⟩
        go_wp2_with fail
        exact ⟨HN.out, by simp [intOf]⟩
      · subst hk0
        have q4 : wr.cell? ⟨w.heap.size + 1, 4, none⟩ = some (.int .i64 c4) := Hb.out.cell 4
        have f4 : wr.frozen? ⟨w.heap.size + 1, 4, none⟩ = false := Hb.out.free 4
        have HN : Hid (ConfRel w.heap.size len0 w (.int .i64 3) (wr.setCell ⟨w.heap.size + 1, 4, none⟩ (.int .i64 (1 + zat z0 2 % 20)))) :=
          ⟨3, c0, c1, c2, c3, (1 + zat z0 2 % 20), c5, c6, c7, c8, c9, c10, by omega, by omega, rfl, Hb.out.set 4 _, by have := Hg.out; unfold GoodC at *; omega, Hbz.out.kept (only_setCell (only_refl _ _) (.inl rfl) _) (by simp), Hbel.out.setCell (by show w.heap.size ≤ w.heap.size + 1; omega) _⟩
        go_wp2_with fail
        exact ⟨HN.out, by simp [intOf]⟩
      · subst hk0
        have q5 : wr.cell? ⟨w.heap.size + 1, 5, none⟩ = some (.int .i64 c5) := Hb.out.cell 5
        have f5 : wr.frozen? ⟨w.heap.size + 1, 5, none⟩ = false := Hb.out.free 5
        have q4 : wr.cell? ⟨w.heap.size + 1, 4, none⟩ = some (.int .i64 c4) := Hb.out.cell 4
        have b4 : 1 ≤ c4 ∧ c4 ≤ 20 := by have := Hg.out; unfold GoodC at this; omega
        have HN : Hid (ConfRel w.heap.size len0 w (.int .i64 4) (wr.setCell ⟨w.heap.size + 1, 5, none⟩ (.int .i64 (c4 + zat z0 3 % 60)))) :=
          ⟨4, c0, c1, c2, c3, c4, (c4 + zat z0 3 % 60), c6, c7, c8, c9, c10, by omega, by omega, rfl, Hb.out.set 5 _, by have := Hg.out; unfold GoodC at *; omega, Hbz.out.kept (only_setCell (only_refl _ _) (.inl rfl) _) (by simp), Hbel.out.setCell (by show w.heap.size ≤ w.heap.size + 1; omega) _⟩
        go_wp2_with fail
        exact ⟨HN.out, by simp [intOf]⟩
      · subst hk0
        have q6 : wr.cell? ⟨w.heap.size + 1, 6, none⟩ = some (.int .i64 c6) := Hb.out.cell 6
        have f6 : wr.frozen? ⟨w.heap.size + 1, 6, none⟩ = false := Hb.out.free 6
        have HN : Hid (ConfRel w.heap.size len0 w (.int .i64 5) (wr.setCell ⟨w.heap.size + 1, 6, none⟩ (.int .i64 (1 + zat z0 4 % 6)))) :=
          ⟨5, c0, c1, c2, c3, c4, c5, (1 + zat z0 4 % 6), c7, c8, c9, c10, by omega, by omega, rfl, Hb.out.set 6 _, by have := Hg.out; unfold GoodC at *; omega, Hbz.out.kept (only_setCell (only_refl _ _) (.inl rfl) _) (by simp), Hbel.out.setCell (by show w.heap.size ≤ w.heap.size + 1; omega) _⟩
        go_wp2_with fail
        exact ⟨HN.out, by simp [intOf]⟩
      · subst hk0
        have q7 : wr.cell? ⟨w.heap.size + 1, 7, none⟩ = some (.int .i64 c7) := Hb.out.cell 7
        have f7 : wr.frozen? ⟨w.heap.size + 1, 7, none⟩ = false := Hb.out.free 7
        have HN : Hid (ConfRel w.heap.size len0 w (.int .i64 6) (wr.setCell ⟨w.heap.size + 1, 7, none⟩ (.int .i64 (zat z0 5 % 4)))) :=
          ⟨6, c0, c1, c2, c3, c4, c5, c6, (zat z0 5 % 4), c8, c9, c10, by omega, by omega, rfl, Hb.out.set 7 _, by have := Hg.out; unfold GoodC at *; omega, Hbz.out.kept (only_setCell (only_refl _ _) (.inl rfl) _) (by simp), Hbel.out.setCell (by show w.heap.size ≤ w.heap.size + 1; omega) _⟩
        go_wp2_with fail
        exact ⟨HN.out, by simp [intOf]⟩
      · subst hk0
        have q8 : wr.cell? ⟨w.heap.size + 1, 8, none⟩ = some (.int .i64 c8) := Hb.out.cell 8
        have f8 : wr.frozen? ⟨w.heap.size + 1, 8, none⟩ = false := Hb.out.free 8
        have HN : Hid (ConfRel w.heap.size len0 w (.int .i64 7) (wr.setCell ⟨w.heap.size + 1, 8, none⟩ (.int .i64 (1 + zat z0 6 % 9)))) :=
          ⟨7, c0, c1, c2, c3, c4, c5, c6, c7, (1 + zat z0 6 % 9), c9, c10, by omega, by omega, rfl, Hb.out.set 8 _, by have := Hg.out; unfold GoodC at *; omega, Hbz.out.kept (only_setCell (only_refl _ _) (.inl rfl) _) (by simp), Hbel.out.setCell (by show w.heap.size ≤ w.heap.size + 1; omega) _⟩
        go_wp2_with fail
        exact ⟨HN.out, by simp [intOf]⟩
      · subst hk0
        have q9 : wr.cell? ⟨w.heap.size + 1, 9, none⟩ = some (.int .i64 c9) := Hb.out.cell 9
        have f9 : wr.frozen? ⟨w.heap.size + 1, 9, none⟩ = false := Hb.out.free 9
        have HN : Hid (ConfRel w.heap.size len0 w (.int .i64 8) (wr.setCell ⟨w.heap.size + 1, 9, none⟩ (.int .i64 (1 + zat z0 7 % 9)))) :=
          ⟨8, c0, c1, c2, c3, c4, c5, c6, c7, c8, (1 + zat z0 7 % 9), c10, by omega, by omega, rfl, Hb.out.set 9 _, by have := Hg.out; unfold GoodC at *; omega, Hbz.out.kept (only_setCell (only_refl _ _) (.inl rfl) _) (by simp), Hbel.out.setCell (by show w.heap.size ≤ w.heap.size + 1; omega) _⟩
        go_wp2_with fail
        exact ⟨HN.out, by simp [intOf]⟩
      · subst hk0
        have q10 : wr.cell? ⟨w.heap.size + 1, 10, none⟩ = some (.int .i64 c10) := Hb.out.cell 10
        have f10 : wr.frozen? ⟨w.heap.size + 1, 10, none⟩ = false := Hb.out.free 10
        have HN : Hid (ConfRel w.heap.size len0 w (.int .i64 9) (wr.setCell ⟨w.heap.size + 1, 10, none⟩ (.int .i64 (1 + zat z0 8 % 12)))) :=
          ⟨9, c0, c1, c2, c3, c4, c5, c6, c7, c8, c9, (1 + zat z0 8 % 12), by omega, by omega, rfl, Hb.out.set 10 _, by have := Hg.out; unfold GoodC at *; omega, Hbz.out.kept (only_setCell (only_refl _ _) (.inl rfl) _) (by simp), Hbel.out.setCell (by show w.heap.size ≤ w.heap.size + 1; omega) _⟩
        go_wp2_with fail
        exact ⟨HN.out, by simp [intOf]⟩
      · subst hk0
        have q2 : wr.cell? ⟨w.heap.size + 1, 2, none⟩ = some (.int .i64 c2) := Hb.out.cell 2
        have f2 : wr.frozen? ⟨w.heap.size + 1, 2, none⟩ = false := Hb.out.free 2
        have HN : Hid (ConfRel w.heap.size len0 w (.int .i64 10) (wr.setCell ⟨w.heap.size + 1, 2, none⟩ (.int .i64 (1 + zat z0 9)))) :=
          ⟨10, c0, c1, (1 + zat z0 9), c3, c4, c5, c6, c7, c8, c9, c10, by omega, by omega, rfl, Hb.out.set 2 _, by have := Hg.out; unfold GoodC at *; omega, Hbz.out.kept (only_setCell (only_refl _ _) (.inl rfl) _) (by simp), Hbel.out.setCell (by show w.heap.size ≤ w.heap.size + 1; omega) _⟩
        go_wp2_with fail
        exact ⟨HN.out, by simp [intOf]⟩
      · subst hk0
        have q3 : wr.cell? ⟨w.heap.size + 1, 3, none⟩ = some (.int .i64 c3) := Hb.out.cell 3
        have f3 : wr.frozen? ⟨w.heap.size + 1, 3, none⟩ = false := Hb.out.free 3
        have HN : Hid (ConfRel w.heap.size len0 w (.int .i64 11) (wr.setCell ⟨w.heap.size + 1, 3, none⟩ (.int .i64 (zat z0 10 % 201)))) :=
          ⟨11, c0, c1, c2, (zat z0 10 % 201), c4, c5, c6, c7, c8, c9, c10, by omega, by omega, rfl, Hb.out.set 3 _, by have := Hg.out; unfold GoodC at *; omega, Hbz.out.kept (only_setCell (only_refl _ _) (.inl rfl) _) (by simp), Hbel.out.setCell (by show w.heap.size ≤ w.heap.size + 1; omega) _⟩
        go_wp2_with fail
        exact ⟨HN.out, by simp [intOf]⟩
    · have hor : len0 ≤ k ∨ (k < len0 ∧ k = 11) := by omega
      have q0 : wr.cell? ⟨w.heap.size + 1, 0, none⟩ = some (.int .i64 c0) := Hb.out.cell 0
      have r0 : wr.cell? ⟨w.heap.size, 0, none⟩ = some (.int .i64 0) := Hbz.out.cell 0
      have f0 : wr.frozen? ⟨w.heap.size, 0, none⟩ = false := Hbz.out.free 0
      have q1 : wr.cell? ⟨w.heap.size + 1, 1, none⟩ = some (.int .i64 c1) := Hb.out.cell 1
      have r1 : wr.cell? ⟨w.heap.size, 1, none⟩ = some (.int .i64 0) := Hbz.out.cell 1
      have f1 : wr.frozen? ⟨w.heap.size, 1, none⟩ = false := Hbz.out.free 1
      have q2 : wr.cell? ⟨w.heap.size + 1, 2, none⟩ = some (.int .i64 c2) := Hb.out.cell 2
      have r2 : wr.cell? ⟨w.heap.size, 2, none⟩ = some (.int .i64 0) := Hbz.out.cell 2
      have f2 : wr.frozen? ⟨w.heap.size, 2, none⟩ = false := Hbz.out.free 2
      have q3 : wr.cell? ⟨w.heap.size + 1, 3, none⟩ = some (.int .i64 c3) := Hb.out.cell 3
      have r3 : wr.cell? ⟨w.heap.size, 3, none⟩ = some (.int .i64 0) := Hbz.out.cell 3
      have f3 : wr.frozen? ⟨w.heap.size, 3, none⟩ = false := Hbz.out.free 3
      have q4 : wr.cell? ⟨w.heap.size + 1, 4, none⟩ = some (.int .i64 c4) := Hb.out.cell 4
      have r4 : wr.cell? ⟨w.heap.size, 4, none⟩ = some (.int .i64 0) := Hbz.out.cell 4
      have f4 : wr.frozen? ⟨w.heap.size, 4, none⟩ = false := Hbz.out.free 4
      have q5 : wr.cell? ⟨w.heap.size + 1, 5, none⟩ = some (.int .i64 c5) := Hb.out.cell 5
      have r5 : wr.cell? ⟨w.heap.size, 5, none⟩ = some (.int .i64 0) := Hbz.out.cell 5
      have f5 : wr.frozen? ⟨w.heap.size, 5, none⟩ = false := Hbz.out.free 5
      have q6 : wr.cell? ⟨w.heap.size + 1, 6, none⟩ = some (.int .i64 c6) := Hb.out.cell 6
      have r6 : wr.cell? ⟨w.heap.size, 6, none⟩ = some (.int .i64 0) := Hbz.out.cell 6
      have f6 : wr.frozen? ⟨w.heap.size, 6, none⟩ = false := Hbz.out.free 6
      have q7 : wr.cell? ⟨w.heap.size + 1, 7, none⟩ = some (.int .i64 c7) := Hb.out.cell 7
      have r7 : wr.cell? ⟨w.heap.size, 7, none⟩ = some (.int .i64 0) := Hbz.out.cell 7
      have f7 : wr.frozen? ⟨w.heap.size, 7, none⟩ = false := Hbz.out.free 7
      have q8 : wr.cell? ⟨w.heap.size + 1, 8, none⟩ = some (.int .i64 c8) := Hb.out.cell 8
      have r8 : wr.cell? ⟨w.heap.size, 8, none⟩ = some (.int .i64 0) := Hbz.out.cell 8
      have f8 : wr.frozen? ⟨w.heap.size, 8, none⟩ = false := Hbz.out.free 8
      have q9 : wr.cell? ⟨w.heap.size + 1, 9, none⟩ = some (.int .i64 c9) := Hb.out.cell 9
      have r9 : wr.cell? ⟨w.heap.size, 9, none⟩ = some (.int .i64 0) := Hbz.out.cell 9
      have f9 : wr.frozen? ⟨w.heap.size, 9, none⟩ = false := Hbz.out.free 9
      have q10 : wr.cell? ⟨w.heap.size + 1, 10, none⟩ = some (.int .i64 c10) := Hb.out.cell 10
      have r10 : wr.cell? ⟨w.heap.size, 10, none⟩ = some (.int .i64 0) := Hbz.out.cell 10
      have f10 : wr.frozen? ⟨w.heap.size, 10, none⟩ = false := Hbz.out.free 10
      rcases hor with hor | hor
      all_goals
        go_wp2_with fail
        refine bodyPost_ret (v := .agg #[.int .i64 c0, .int .i64 c1, .int .i64 c2, .int .i64 c3, .int .i64 c4, .int .i64 c5, .int .i64 c6, .int .i64 c7, .int .i64 c8, .int .i64 c9, .int .i64 c10]) ?_ rfl ?_
        · simp [results, Try.results16, go_sem, r0, r1, r2, r3, r4, r5, r6, r7, r8, r9, r10]
        · have hg := Hg.out
          exact ⟨c0, c1, c2, c3, c4, c5, c6, c7, c8, c9, c10, rfl, by unfold GoodC at *; omega, only_below (Hbel.out.grown (only_setCell (only_setCell (only_setCell (only_setCell (only_setCell (only_setCell (only_setCell (only_setCell (only_setCell (only_setCell (only_setCell (only_refl wr (some w.heap.size)) (p := ⟨w.heap.size, 0, none⟩) (.inl rfl) _) (p := ⟨w.heap.size, 1, none⟩) (.inl rfl) _) (p := ⟨w.heap.size, 2, none⟩) (.inl rfl) _) (p := ⟨w.heap.size, 3, none⟩) (.inl rfl) _) (p := ⟨w.heap.size, 4, none⟩) (.inl rfl) _) (p := ⟨w.heap.size, 5, none⟩) (.inl rfl) _) (p := ⟨w.heap.size, 6, none⟩) (.inl rfl) _) (p := ⟨w.heap.size, 7, none⟩) (.inl rfl) _) (p := ⟨w.heap.size, 8, none⟩) (.inl rfl) _) (p := ⟨w.heap.size, 9, none⟩) (.inl rfl) _) (p := ⟨w.heap.size, 10, none⟩) (.inl rfl) _) Hbel.out.size (by simp))⟩
end Go.Proofs.Ytdjfbojnobjfgaa
