/- ViewConfs returns true at every input, and its arguments read as they did: no condition. -/
import Derived.Test.YtdjfbojnobjfgaaRows
import Derived.WalkKit
import Derived.ProofKit
import Derived.OpenShut
import Derived.ShutString
import Derived.ChangeOld
import Derived.Below
import Derived.WalkSpells
import Derived.WalkLawsBesides
import Derived.Handy
import Derived.Test.YtdjfbojnobjfgaaMem
import Derived.Test.YtdjfbojnobjfgaaView
import Derived.Test.YtdjfbojnobjfgaaConf
import Derived.Test.YtdjfbojnobjfgaaAw13
import Derived.Test.YtdjfbojnobjfgaaMakeConf
namespace Go.Proofs.Ytdjfbojnobjfgaa.viewConfs
open Go.ChangeShapes Go.WideShapes Go.ChangeAt Go.RowKit
open Go.ChangeMaps (open_string shut_string)
set_option linter.unusedVariables false

set_option maxRecDepth 100000 in
set_option maxHeartbeats 8000000 in
theorem walk (a0 : Option Addr) (len0 cap0 : Nat) (z0 : List Int) (a1 : Int) (a2 : Int) (w : World) (w0 : IsRow .u8 w a0 len0 cap0 z0) (w1 : (Lit.int .u8 a1).wf = true) (w2 : (Lit.int .u16 a2).wf = true) :
    Calls Try.prog 5 #[.slice a0 len0 cap0, .int .u8 a1, .int .u16 a2] w fun e w' => e = .returned (.bool true) ∧ Below w.heap.size w w' := by
  have h1 := bounds_u8 w1
  have h2 := bounds_u16 w2
  clear w1 w2
  go_enter Try.func5, Try.ntmps5
  go_wp2_with fail
  refine (conf_any a0 len0 cap0 z0 w w0).mono ?_
  rintro e w1 ⟨c0, c1, c2, c3, c4, c5, c6, c7, c8, c9, c10, rfl, hgood, hg1⟩
  have Hg := Lib.hid hgood
  have Hg1 := Lib.hid hg1
  clear hgood hg1 w0
  have sz1 := Hg1.out.size
  have em : mayB c0 c1 c2 c3 c4 c5 c6 c7 c8 c9 c10 = true := decide_eq_true (by have := Hg.out; unfold GoodC at this; omega)
  go_wp2_with fail
  obtain ⟨W, HW⟩ : ∃ W, Hid (w1.alloc (.cells #[.int .i64 c0, .int .i64 c1, .int .i64 c2, .int .i64 c3, .int .i64 c4, .int .i64 c5, .int .i64 c6, .int .i64 c7, .int .i64 c8, .int .i64 c9, .int .i64 c10] 33) = W) := ⟨_, rfl⟩
  rw [HW.out]
  have Hblk : Hid (Blk W w1.heap.size 33 #[.int .i64 c0, .int .i64 c1, .int .i64 c2, .int .i64 c3, .int .i64 c4, .int .i64 c5, .int .i64 c6, .int .i64 c7, .int .i64 c8, .int .i64 c9, .int .i64 c10]) := by rw [← HW.out]; exact Blk.new _ _ _
  have Hbel : Hid (Below w.heap.size w W) := by rw [← HW.out]; exact (below_only (Below.refl _ _) (Nat.le_refl _) Hg1.out (by simp)).alloc sz1 _
  refine (mayconf_own _ _ _ _ _ _ _ _ _ _ _ _).mono ?_
  rintro e w2 ⟨rfl, hg2⟩
  have Hblk2 := Lib.hid (Hblk.out.kept hg2 (by simp))
  have Hbel2 := Lib.hid (below_only Hbel.out Hbel.out.size hg2 (by simp))
  have sz2 := Hbel2.out.size
  clear hg2
  have q0 : w2.cell? ⟨w1.heap.size, 0, none⟩ = some (.int .i64 c0) := Hblk2.out.cell 0
  have q1 : w2.cell? ⟨w1.heap.size, 1, none⟩ = some (.int .i64 c1) := Hblk2.out.cell 1
  have q2 : w2.cell? ⟨w1.heap.size, 2, none⟩ = some (.int .i64 c2) := Hblk2.out.cell 2
  have q3 : w2.cell? ⟨w1.heap.size, 3, none⟩ = some (.int .i64 c3) := Hblk2.out.cell 3
  have q4 : w2.cell? ⟨w1.heap.size, 4, none⟩ = some (.int .i64 c4) := Hblk2.out.cell 4
  have q5 : w2.cell? ⟨w1.heap.size, 5, none⟩ = some (.int .i64 c5) := Hblk2.out.cell 5
  have q6 : w2.cell? ⟨w1.heap.size, 6, none⟩ = some (.int .i64 c6) := Hblk2.out.cell 6
  have q7 : w2.cell? ⟨w1.heap.size, 7, none⟩ = some (.int .i64 c7) := Hblk2.out.cell 7
  have q8 : w2.cell? ⟨w1.heap.size, 8, none⟩ = some (.int .i64 c8) := Hblk2.out.cell 8
  have q9 : w2.cell? ⟨w1.heap.size, 9, none⟩ = some (.int .i64 c9) := Hblk2.out.cell 9
  have q10 : w2.cell? ⟨w1.heap.size, 10, none⟩ = some (.int .i64 c10) := Hblk2.out.cell 10
  have q5' : ∀ c t, (w2.alloc (.cells c t)).cell? ⟨w1.heap.size, 5, none⟩ = some (.int .i64 c5) := fun c t => (Hblk2.out.alloc _).cell 5
  have b5 : 1 ≤ c5 ∧ c5 ≤ 100 := by have := Hg.out; unfold GoodC at this; omega
  have hks : a1 % 8 = 0 ∨ a1 % 8 = 1 ∨ a1 % 8 = 2 ∨ a1 % 8 = 3 ∨ a1 % 8 = 4 ∨ a1 % 8 = 5 ∨ a1 % 8 = 6 ∨ a1 % 8 = 7 := by omega
  rcases hks with hk | hk | hk | hk | hk | hk | hk | hk
  · have em2 : mayB (2 * (a2 % 5)) c1 c2 c3 c4 c5 c6 c7 c8 c9 c10 = false := decide_eq_false (by have := Hg.out; unfold GoodC at this; omega)
    go_wp2_with fail
    refine (mayconf_own _ _ _ _ _ _ _ _ _ _ _ _).mono ?_
    rintro e w3 ⟨rfl, hg3⟩
    have Hbel3 := Lib.hid (below_only (Hbel2.out.alloc Hbel2.out.size _) (by have := Hbel2.out.size; simp; omega) hg3 (by simp))
    clear hg3
    go_wp2_with fail
    refine (awake13_any _).mono ?_
    rintro e w5 ⟨rfl, hg5⟩
    go_wp2_with fail
    go_ret
    exact ⟨rfl, below_only Hbel3.out Hbel3.out.size hg5 (by simp)⟩
  · have em2 : mayB c0 (9 + a2) c2 c3 c4 c5 c6 c7 c8 c9 c10 = false := decide_eq_false (by have := Hg.out; unfold GoodC at this; omega)
    go_wp2_with fail
    refine (mayconf_own _ _ _ _ _ _ _ _ _ _ _ _).mono ?_
    rintro e w3 ⟨rfl, hg3⟩
    have Hbel3 := Lib.hid (below_only (Hbel2.out.alloc Hbel2.out.size _) (by have := Hbel2.out.size; simp; omega) hg3 (by simp))
    clear hg3
    go_wp2_with fail
    refine (awake13_any _).mono ?_
    rintro e w5 ⟨rfl, hg5⟩
    go_wp2_with fail
    go_ret
    exact ⟨rfl, below_only Hbel3.out Hbel3.out.size hg5 (by simp)⟩
  · have em2 : mayB c0 c1 c2 c3 (c5 + 1) c5 c6 c7 c8 c9 c10 = false := decide_eq_false (by have := Hg.out; unfold GoodC at this; omega)
    go_wp2_with fail
    refine (mayconf_own _ _ _ _ _ _ _ _ _ _ _ _).mono ?_
    rintro e w3 ⟨rfl, hg3⟩
    have Hbel3 := Lib.hid (below_only (Hbel2.out.alloc Hbel2.out.size _) (by have := Hbel2.out.size; simp; omega) hg3 (by simp))
    clear hg3
    go_wp2_with fail
    refine (awake13_any _).mono ?_
    rintro e w5 ⟨rfl, hg5⟩
    go_wp2_with fail
    go_ret
    exact ⟨rfl, below_only Hbel3.out Hbel3.out.size hg5 (by simp)⟩
  · have em2 : mayB c0 c1 c2 (201 + a2) c4 c5 c6 c7 c8 c9 c10 = false := decide_eq_false (by have := Hg.out; unfold GoodC at this; omega)
    go_wp2_with fail
    refine (mayconf_own _ _ _ _ _ _ _ _ _ _ _ _).mono ?_
    rintro e w3 ⟨rfl, hg3⟩
    have Hbel3 := Lib.hid (below_only (Hbel2.out.alloc Hbel2.out.size _) (by have := Hbel2.out.size; simp; omega) hg3 (by simp))
    clear hg3
    go_wp2_with fail
    refine (awake13_any _).mono ?_
    rintro e w5 ⟨rfl, hg5⟩
    go_wp2_with fail
    go_ret
    exact ⟨rfl, below_only Hbel3.out Hbel3.out.size hg5 (by simp)⟩
  · have em2 : mayB c0 c1 c2 c3 c4 c5 c6 (-1) c8 c9 c10 = false := decide_eq_false (by have := Hg.out; unfold GoodC at this; omega)
    go_wp2_with fail
    refine (mayconf_own _ _ _ _ _ _ _ _ _ _ _ _).mono ?_
    rintro e w3 ⟨rfl, hg3⟩
    have Hbel3 := Lib.hid (below_only (Hbel2.out.alloc Hbel2.out.size _) (by have := Hbel2.out.size; simp; omega) hg3 (by simp))
    clear hg3
    go_wp2_with fail
    refine (awake13_any _).mono ?_
    rintro e w5 ⟨rfl, hg5⟩
    go_wp2_with fail
    go_ret
    exact ⟨rfl, below_only Hbel3.out Hbel3.out.size hg5 (by simp)⟩
  · have em2 : mayB c0 c1 (-a2) c3 c4 c5 c6 c7 c8 c9 c10 = false := decide_eq_false (by have := Hg.out; unfold GoodC at this; omega)
    go_wp2_with fail
    refine (mayconf_own _ _ _ _ _ _ _ _ _ _ _ _).mono ?_
    rintro e w3 ⟨rfl, hg3⟩
    have Hbel3 := Lib.hid (below_only (Hbel2.out.alloc Hbel2.out.size _) (by have := Hbel2.out.size; simp; omega) hg3 (by simp))
    clear hg3
    go_wp2_with fail
    refine (awake13_any _).mono ?_
    rintro e w5 ⟨rfl, hg5⟩
    go_wp2_with fail
    go_ret
    exact ⟨rfl, below_only Hbel3.out Hbel3.out.size hg5 (by simp)⟩
  · have em2 : mayB c0 c1 c2 c3 c4 c5 c6 c7 (1000001 + a2) c9 c10 = false := decide_eq_false (by have := Hg.out; unfold GoodC at this; omega)
    go_wp2_with fail
    refine (mayconf_own _ _ _ _ _ _ _ _ _ _ _ _).mono ?_
    rintro e w3 ⟨rfl, hg3⟩
    have Hbel3 := Lib.hid (below_only (Hbel2.out.alloc Hbel2.out.size _) (by have := Hbel2.out.size; simp; omega) hg3 (by simp))
    clear hg3
    go_wp2_with fail
    refine (awake13_any _).mono ?_
    rintro e w5 ⟨rfl, hg5⟩
    go_wp2_with fail
    go_ret
    exact ⟨rfl, below_only Hbel3.out Hbel3.out.size hg5 (by simp)⟩
  · have em2 : mayB c0 c1 c2 c3 c4 c5 c6 c7 c8 c9 (0) = false := decide_eq_false (by have := Hg.out; unfold GoodC at this; omega)
    go_wp2_with fail
    refine (mayconf_own _ _ _ _ _ _ _ _ _ _ _ _).mono ?_
    rintro e w3 ⟨rfl, hg3⟩
    have Hbel3 := Lib.hid (below_only (Hbel2.out.alloc Hbel2.out.size _) (by have := Hbel2.out.size; simp; omega) hg3 (by simp))
    clear hg3
    go_wp2_with fail
    refine (awake13_any _).mono ?_
    rintro e w5 ⟨rfl, hg5⟩
    go_wp2_with fail
    go_ret
    exact ⟨rfl, below_only Hbel3.out Hbel3.out.size hg5 (by simp)⟩

theorem own : ownKnob Try.prog.godebug = none := by kernel_rfl
theorem laidOut : laidOutB Try.prog = true := by kernel_rfl

set_option maxRecDepth 100000 in
theorem lifted (os : Os) (started : os.Started) (H : Type) (enc : TypeId × Value → H) :
    ReturnsInHanded {} Try.checked os 5 .any (Rows.viewConfsSpec.pre6 enc Try.prog Try.f5 Rows.viewConfsRow.domain false) (Rows.viewConfsSpec.post enc Try.prog Try.f5 false true false false) := by
  refine returnsInHanded_of_change (C := Try.checked) own started (by kernel_rfl) Try.func5
    (ChangeSpec.witness6 (enc := enc) (C := Try.checked) false ⟨#[], #[.slice none 0 0, .int .u8 0, .int .u16 0], []⟩ 8 (by kernel_rfl) (by kernel_rfl) (by kernel_rfl) (by kernel_rfl)) ?_
  intro W base args ds gs before hval0 hW hcnd _
  have hval : ∀ (j : Nat) t v, Try.f5.params[j]? = some t → args[j]? = some v → Value.okWide Try.prog W .any base t v := hval0
  have hW' := hW
  obtain ⟨p, q, hA0, hV, rfl, hfz, hnd⟩ := hW
  have hA : DataW.TrodAll enc Try.prog W 0 (fun _ => true) true Try.f5.params.toList args.toList ds p := hA0
  rw [Try.params5] at hA hval
  obtain ⟨v0, vs0, d0, ds0, p0, q0, hargs, rfl, rfl, h0, r0⟩ := trodAll_cons hA
  obtain ⟨v1, vs1, d1, ds1, p1, q1, rfl, rfl, rfl, h1, r1⟩ := trodAll_cons r0
  obtain ⟨v2, vs2, d2, ds2, p2, q2, rfl, rfl, rfl, h2, r2⟩ := trodAll_cons r1
  obtain ⟨rfl, rfl, rfl⟩ := trodAll_nil r2
  obtain rfl : args = #[v0, v1, v2] := by cases args; simp_all
  obtain ⟨rfl, rfl⟩ := trodVars_none hV
  obtain ⟨a0, len0, cap0, rfl⟩ := okWide_slice Try.underlying30 (hval 0 30 v0 rfl rfl)
  have k0 := h0
  have lt0 : ∀ x ∈ p0, x.block < W.heap.size := by obtain ⟨m, hm⟩ := k0; exact DataW.trod_lt m _ _ _ hm
  obtain ⟨z0, w0⟩ : ∃ zs, IsRow .u8 W a0 len0 cap0 zs := by
    obtain ⟨fuel, hf⟩ := h0
    rcases open_ints Try.underlying30 Try.underlying5 (by kernel_rfl) hf with ⟨hcs, _⟩ | ⟨x, l, c, zs, hcs, _, hl, hm, hz, _, hcell, hwz⟩
    · simp [Value.cells] at hcs
      obtain ⟨rfl, rfl, rfl⟩ := hcs
      exact ⟨[], .inl ⟨rfl, rfl, rfl, rfl⟩⟩
    · simp [Value.cells] at hcs
      obtain ⟨rfl, rfl, rfl⟩ := hcs
      exact ⟨zs, .inr ⟨_, rfl, hl, hm, by simpa using hz, hcell, hwz⟩⟩
  obtain ⟨a1, rfl, rfl, rfl, w1⟩ := open_int Try.underlying5 (hval 1 5 v1 rfl rfl) h1
  obtain ⟨a2, rfl, rfl, rfl, w2⟩ := open_int Try.underlying31 (hval 2 31 v2 rfl rfl) h2
  clear hA0 hval0
  refine (walk a0 len0 cap0 z0 a1 a2 W w0 w1 w2).mono fun e W' ⟨he, bel⟩ => ?_
  subst he
  exact ⟨_, rfl, _, _, _, [], _, [], hW', trodAll_mk1 (shut_bool Try.underlying4 _), (trodAll_cons_mk (Below.trod laidOut (by kernel_rfl) (of_decide_eq_true (by kernel_rfl)) k0 bel lt0) (trodAll_cons_mk (shut_int Try.underlying5 w1) (trodAll_cons_mk (shut_int Try.underlying31 w2) trodAll_mk0))), rfl, bel.frame _, fun h => by cases h⟩

theorem over : Rows.viewConfsRow.holds Try.pinned (OpenSpec.ofChange Rows.viewConfsSpec) :=
  OpenClaim.holds_of_wide 5 Try.f5 rfl rfl rfl rfl rfl rfl rfl ⟨rfl, rfl, rfl, rfl, rfl⟩ rfl rfl rfl rfl rfl (by kernel_rfl) Try.func5 (by kernel_rfl)
    (of_decide_eq_true (by kernel_rfl)) (by unfold Func.isWrapper; first | (rw [if_pos (by decide +kernel)]; kernel_rfl) | (rw [if_neg (by decide +kernel)]; exact ⟨rfl, rfl⟩))
    (fun os started H enc _ => lifted os started H enc)

/-- The statement. -/
theorem proved : Rows.ViewConfsSaid := over
#print axioms proved
end Go.Proofs.Ytdjfbojnobjfgaa.viewConfs
