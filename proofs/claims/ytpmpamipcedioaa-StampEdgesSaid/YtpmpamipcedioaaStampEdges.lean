/- StampEdges returns true at every input, and its arguments read as they did: no condition. -/
import Derived.Test.YtpmpamipcedioaaRows
import Derived.WalkKit
import Derived.ProofKit
import Derived.OpenShut
import Derived.ShutString
import Derived.ChangeOld
import Derived.Below
import Derived.WalkSpells
import Derived.WalkLawsBesides
import Derived.Handy
import Derived.Test.YtpmpamipcedioaaMem
import Derived.Test.YtpmpamipcedioaaStamp
namespace Go.Proofs.Ytpmpamipcedioaa.stampEdges
open Go.ChangeShapes Go.WideShapes Go.ChangeAt Go.RowKit
open Go.ChangeMaps (open_string shut_string)
set_option linter.unusedVariables false

theorem near_near (n : Int) : nearF (nearF n) = nearF n := by unfold nearF; omega
theorem at_near (b f t n : Int) : atF b f t (nearF n) = atF b f t n := by unfold atF onF; rw [near_near]
theorem at_bd (b f t n : Int) (hb : 0 ≤ b ∧ b ≤ 2305843009213693952) (ht : t ≤ 2305843009213693952) : b ≤ atF b f t n ∧ atF b f t n ≤ 2305843009213693952 := by unfold atF onF; omega
set_option maxHeartbeats 400000 in
theorem walk (a0 : Int) (a1 : Int) (a2 : Int) (w : World) (w0 : (Lit.int .i64 a0).wf = true) (w1 : (Lit.int .i64 a1).wf = true) (w2 : (Lit.int .i64 a2).wf = true) :
    Calls Try.prog 5 #[.int .i64 a0, .int .i64 a1, .int .i64 a2] w fun e w' => e = .returned (.bool true) ∧ Below w.heap.size w w' := by
  clear w0 w1 w2
  have e0 : (if a0 < 0 then (0 : Int) else a0) = if a0 < 0 then (0 : Int) else a0 := rfl
  clear e0
  obtain ⟨m0, e0⟩ : ∃ m, (if a0 < 0 then (0 : Int) else a0) = m := ⟨_, rfl⟩
  obtain ⟨m1, e1⟩ : ∃ m, (if a1 < 0 then (0 : Int) else a1) = m := ⟨_, rfl⟩
  obtain ⟨m2, e2⟩ : ∃ m, (if a2 < 0 then (0 : Int) else a2) = m := ⟨_, rfl⟩
  have n0 : (if 2305843009213693952 < m0 then 2305843009213693952 else m0) = nearF a0 := by unfold nearF; omega
  have n1 : (if 2305843009213693952 < m1 then 2305843009213693952 else m1) = nearF a1 := by unfold nearF; omega
  have n2 : (if 2305843009213693952 < m2 then 2305843009213693952 else m2) = nearF a2 := by unfold nearF; omega
  have b0 := nearF_bd a0
  have b1 := nearF_bd a1
  go_enter Try.func5, Try.ntmps5
  go_wp2_with fail
  refine (new_own a0 a1 w).mono ?_
  rintro e w1 ⟨rfl, hb1, hg1, hs1⟩
  go_wp2_with fail
  refine (new_own (nearF a0) (nearF a1) w1).mono ?_
  rintro e w2 ⟨rfl, hb2, hg2, hs2⟩
  rw [near_near, near_near] at hb2
  have hb1' := hb1.kept hg2 (by simp)
  have hne : w.heap.size ≠ w1.heap.size := by omega
  go_wp2_with fail
  refine (at_own _ (nearF a0) (nearF a1) 0 a2 _ hb1' (nearF_bd _) (nearF_bd _)).mono ?_
  rintro e w3 ⟨rfl, hb3, hg3⟩
  have sz1 := hg2.size
  have sz2 := hg3.size
  have hb2' := hb2.kept hg3 (by simp; omega)
  go_wp2_with fail
  refine (at_own _ (nearF a0) (nearF a1) 0 (nearF a2) _ hb2' (nearF_bd _) (nearF_bd _)).mono ?_
  rintro e w4 ⟨rfl, hb4, hg4⟩
  have hb3' := hb3.kept hg4 (by simp; omega)
  have an := at_near (nearF a0) (nearF a1) 0 a2
  have ab := at_bd (nearF a0) (nearF a1) 0 a2 (nearF_bd _) (by omega)
  have hall : Below w.heap.size w w4 := below_only (below_only (below_only (below_only (Below.refl _ _) (Nat.le_refl _) hg1 (by simp)) (by omega) hg2 (by simp)) (by omega) hg3 (by simp)) (by omega) hg4 (by simp; omega)
  have Hall := Lib.hid hall
  clear hall hb1 hg1 hs1 hb1' hb2 hg2 hs2 hne hb3 hg3 hb2' hg4 sz1 sz2
  go_wp2_with (first | (go_at_call 14; ((with_reducible refine (base_own _ _ _ _ _ hb3').mono ?_); rintro e w' ⟨rfl, rfl⟩)) | (go_at_call 14; ((with_reducible refine (base_own _ _ _ _ _ hb4).mono ?_); rintro e w' ⟨rfl, rfl⟩)))
  refine (awake20_any _).mono ?_
  rintro e w5 ⟨rfl, hg5⟩
  go_wp2_with fail
  go_ret
  exact ⟨rfl, below_only Hall.out Hall.out.size hg5 (by simp)⟩

theorem own : ownKnob Try.prog.godebug = none := by kernel_rfl
theorem laidOut : laidOutB Try.prog = true := by kernel_rfl

set_option maxRecDepth 100000 in
theorem lifted (os : Os) (started : os.Started) (H : Type) (enc : TypeId × Value → H) :
    ReturnsInHanded {} Try.checked os 5 .any (Rows.stampEdgesSpec.pre6 enc Try.prog Try.f5 Rows.stampEdgesRow.domain false) (Rows.stampEdgesSpec.post enc Try.prog Try.f5 false true false false) := by
  refine returnsInHanded_of_change (C := Try.checked) own started (by kernel_rfl) Try.func5
    (ChangeSpec.witness6 (enc := enc) (C := Try.checked) false ⟨#[], #[.int .i64 0, .int .i64 0, .int .i64 0], []⟩ 8 (by kernel_rfl) (by kernel_rfl) (by kernel_rfl) (by kernel_rfl)) ?_
  intro W base args ds gs before hval0 hW hcnd _
  have hval : ∀ (j : Nat) t v, Try.f5.params[j]? = some t → args[j]? = some v → Value.okWide Try.prog W .any base t v := hval0
  have hW' := hW
  obtain ⟨p, q, hA0, hV, rfl, hfz, hnd⟩ := hW
  have hA : DataW.TrodAll enc Try.prog W 0 (fun _ => true) true Try.f5.params.toList args.toList ds p := hA0
  rw [Try.params5] at hA hval
  obtain ⟨v0, vs0, d0, ds0, p0, q0, hargs, rfl, rfl, h0, r0⟩ := trodAll_cons hA
  obtain ⟨v1, vs1, d1, ds1, p1, q1, rfl, rfl, rfl, h1, r1⟩ := trodAll_cons r0
  obtain ⟨v2, vs2, d2, ds2, p2, q2, rfl, rfl, rfl, h2, r2⟩ := trodAll_cons r1
  obtain ⟨rfl, rfl, rfl⟩ := trodAll_nil r2
  obtain rfl : args = #[v0, v1, v2] := by cases args; simp_all
  obtain ⟨rfl, rfl⟩ := trodVars_none hV
  obtain ⟨a0, rfl, rfl, rfl, w0⟩ := open_int Try.underlying3 (hval 0 3 v0 rfl rfl) h0
  obtain ⟨a1, rfl, rfl, rfl, w1⟩ := open_int Try.underlying3 (hval 1 3 v1 rfl rfl) h1
  obtain ⟨a2, rfl, rfl, rfl, w2⟩ := open_int Try.underlying3 (hval 2 3 v2 rfl rfl) h2
  clear hA0 hval0
  refine (walk a0 a1 a2 W w0 w1 w2).mono fun e W' ⟨he, bel⟩ => ?_
  subst he
  exact ⟨_, rfl, _, _, _, [], _, [], hW', trodAll_mk1 (shut_bool Try.underlying4 _), (trodAll_cons_mk (shut_int Try.underlying3 w0) (trodAll_cons_mk (shut_int Try.underlying3 w1) (trodAll_cons_mk (shut_int Try.underlying3 w2) trodAll_mk0))), rfl, bel.frame _, fun h => by cases h⟩

theorem over : Rows.stampEdgesRow.holds Try.pinned (OpenSpec.ofChange Rows.stampEdgesSpec) :=
  OpenClaim.holds_of_wide 5 Try.f5 rfl rfl rfl rfl rfl rfl rfl ⟨rfl, rfl, rfl, rfl, rfl⟩ rfl rfl rfl rfl rfl (by kernel_rfl) Try.func5 (by kernel_rfl)
    (of_decide_eq_true (by kernel_rfl)) (by unfold Func.isWrapper; first | (rw [if_pos (by decide +kernel)]; kernel_rfl) | (rw [if_neg (by decide +kernel)]; exact ⟨rfl, rfl⟩))
    (fun os started H enc _ => lifted os started H enc)

/-- The statement. -/
theorem proved : Rows.StampEdgesSaid := over
#print axioms proved
end Go.Proofs.Ytpmpamipcedioaa.stampEdges
