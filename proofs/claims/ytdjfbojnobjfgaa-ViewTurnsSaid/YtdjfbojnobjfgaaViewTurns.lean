/- ViewTurns returns true at every input, and its arguments read as they did: no condition. -/
import Derived.Test.YtdjfbojnobjfgaaRows
import Derived.WalkKit
import Derived.ProofKit
import Derived.OpenShut
import Derived.ShutString
import Derived.ChangeOld
import Derived.Below
import Derived.WalkSpells
import Derived.WalkLawsBesides
import Derived.Handy
import Derived.Test.YtdjfbojnobjfgaaMem
import Derived.Test.YtdjfbojnobjfgaaView
import Derived.Test.YtdjfbojnobjfgaaConf
import Derived.Test.YtdjfbojnobjfgaaAw13
namespace Go.Proofs.Ytdjfbojnobjfgaa.viewTurns
open Go.ChangeShapes Go.WideShapes Go.ChangeAt Go.RowKit
open Go.ChangeMaps (open_string shut_string)
set_option linter.unusedVariables false

/-- Who has led so far, one bit each. -/
def seenN (k r : Nat) : Nat → Nat
  | 0 => 0
  | i + 1 => seenN k r i + 2 ^ ((r + i) % k)
def TRel (k v : Int) (i s : Value) : Prop :=
  ∃ j : Nat, i = .int .i64 j ∧ (j : Int) ≤ k ∧ s = .int .i64 (seenN k.toNat (v % k).toNat j : Nat)

theorem seen_fin : ∀ k : Fin 8, ∀ r : Fin 8, ∀ j : Fin 8, 1 ≤ k.val → r.val < k.val → j.val < k.val →
    ((seenN k.val r.val j.val : Nat) : Int) < 128 ∧ bits .and .i64 ((seenN k.val r.val j.val : Nat) / 2 ^ ((r.val + j.val) % k.val) : Int) 1 = 0 ∧ bits .or .i64 (seenN k.val r.val j.val : Nat) (wrap64 (2 ^ ((r.val + j.val) % k.val))) = (seenN k.val r.val (j.val + 1) : Nat) := by
  decide +kernel
theorem turn_facts (K v : Int) (j : Nat) (hK1 : 1 ≤ K) (hK7 : K ≤ 7) (hv : 0 ≤ v) (hj : (j : Int) < K) :
    ((seenN K.toNat (v % K).toNat j : Nat) : Int) < 128 ∧ bits .and .i64 ((seenN K.toNat (v % K).toNat j : Nat) / 2 ^ ((v + j) % K).toNat : Int) 1 = 0 ∧
      bits .or .i64 (seenN K.toNat (v % K).toNat j : Nat) (wrap64 (2 ^ ((v + j) % K).toNat)) = (seenN K.toNat (v % K).toNat (j + 1) : Nat) := by
  obtain ⟨k, rfl⟩ := Int.eq_ofNat_of_zero_le (show 0 ≤ K by omega)
  obtain ⟨n, rfl⟩ := Int.eq_ofNat_of_zero_le hv
  have e1 : ((n : Int) % (k : Int)).toNat = n % k := by omega
  have e2 : (((n : Int) + (j : Int)) % (k : Int)).toNat = (n % k + j) % k := by
    rw [show ((n : Int) + (j : Int)) % (k : Int) = (((n + j) % k : Nat) : Int) from by rw [Int.natCast_emod, Int.natCast_add], Int.toNat_natCast, Nat.mod_add_mod]
  rw [e1, e2, Int.toNat_natCast]
  have hlt : n % k < k := Nat.mod_lt _ (by omega)
  exact seen_fin ⟨k, by omega⟩ ⟨n % k, by omega⟩ ⟨j, by omega⟩ (by show 1 ≤ k; omega) hlt (by show j < k; omega)
theorem led_turn (K v : Int) (j : Nat) (hK1 : 1 ≤ K) (hK7 : K ≤ 7) (hv : 0 ≤ v) (hv1 : v ≤ 4294967295) (hj : (j : Int) < K) : ledF v K ((v + j) % K) = v + j := by
  have hm := mod_bd (v + j) K hK1
  unfold ledF
  rw [if_neg (by omega), Int.sub_emod, Int.emod_emod, ← Int.sub_emod, show v + (j : Int) - v = j from by omega, Int.emod_eq_of_lt (by omega) hj]

set_option maxRecDepth 100000 in
set_option maxHeartbeats 1000000 in
theorem walk (a0 : Int) (a1 : Int) (w : World) (w0 : (Lit.int .u32 a0).wf = true) (w1 : (Lit.int .u8 a1).wf = true) :
    Calls Try.prog 4 #[.int .u32 a0, .int .u8 a1] w fun e w' => e = .returned (.bool true) ∧ Below w.heap.size w w' := by
  have h0 := bounds_u32 w0
  have h1 := bounds_u8 w1
  clear w0 w1
  have hk : 1 ≤ 1 + a1 % 7 ∧ 1 + a1 % 7 ≤ 7 := by omega
  have Hs : Hid (TRel (1 + a1 % 7) a0 (.int .i64 0) (.int .i64 0)) := ⟨0, rfl, by omega, rfl⟩
  go_enter Try.func4, Try.ntmps4
  go_wp2_with fail
  go_loop [6, 7] (fun s i => TRel (1 + a1 % 7) a0 i s) (fun _ i => (7 - intOf i).toNat)
  case atStart => exact Hs.out
  case round =>
    clear Hs
    obtain ⟨j, rfl, hj0, rfl⟩ := hrel
    by_cases hj : (j : Int) < 1 + a1 % 7
    · have e1 := leaderF_bd (a0 + j) (1 + a1 % 7) (by omega) (by omega) (by omega) (by omega)
      have hm := mod_bd (a0 + j) (1 + a1 % 7) (by omega)
      obtain ⟨t1, t2, t3⟩ := turn_facts (1 + a1 % 7) a0 j (by omega) (by omega) (by omega) hj
      have t4 := led_turn (1 + a1 % 7) a0 j (by omega) (by omega) (by omega) (by omega) hj
      have HN : Hid (TRel (1 + a1 % 7) a0 (.int .i64 ((j : Int) + 1)) (.int .i64 (seenN (1 + a1 % 7).toNat (a0 % (1 + a1 % 7)).toNat (j + 1) : Nat))) := ⟨j + 1, by go_num, by omega, rfl⟩
      obtain ⟨s', Hsn'⟩ : ∃ s, Hid (seenN (1 + a1 % 7).toNat (a0 % (1 + a1 % 7)).toNat (j + 1) = s) := ⟨_, rfl⟩
      rw [Hsn'.out] at t3 HN
      obtain ⟨s, Hsn⟩ : ∃ s, Hid (seenN (1 + a1 % 7).toNat (a0 % (1 + a1 % 7)).toNat j = s) := ⟨_, rfl⟩
      rw [Hsn.out] at t1 t2 t3 ⊢
      obtain ⟨h, Hh⟩ : ∃ h, Hid ((a0 + j) % (1 + a1 % 7) = h) := ⟨_, rfl⟩
      rw [Hh.out] at e1 hm t2 t3 t4
      have t5 : (bits .and .i64 ((s : Int) / 2 ^ h.toNat) 1 == 1) = false := by rw [t2]; rfl
      go_wp2_with (first | (go_at_call 14; refine (leader_any _ _ _).mono ?_; rintro e w' ⟨rfl, rfl⟩) | (go_at_call 15; refine (led_any _ _ _ _).mono ?_; rintro e w' ⟨rfl, rfl⟩))
      exact ⟨HN.out, by simp [intOf]; omega⟩
    · have e1 : leaderF (a0 + (1 + a1 % 7)) (1 + a1 % 7) = leaderF a0 (1 + a1 % 7) := by
        rw [leaderF_bd _ _ (by omega) (by omega) (by omega) (by omega), leaderF_bd _ _ (by omega) (by omega) (by omega) (by omega), Int.add_emod_right]
      have e2 : leaderF (-1 - a0) (1 + a1 % 7) = -1 := leaderF_no _ _ (by omega)
      have e3 : ledF a0 (1 + a1 % 7) (1 + a1 % 7) = -1 := if_pos (by omega)
      go_wp2_with (first | (go_at_call 14; refine (leader_any _ _ _).mono ?_; rintro e w' ⟨rfl, rfl⟩) | (go_at_call 15; refine (led_any _ _ _ _).mono ?_; rintro e w' ⟨rfl, rfl⟩))
      refine (awake13_any _).mono ?_
      rintro e w5 ⟨rfl, hg5⟩
      go_wp2_with fail
      go_ret
      exact ⟨rfl, below_only (Below.refl _ _) (Nat.le_refl _) hg5 (by simp)⟩

theorem own : ownKnob Try.prog.godebug = none := by kernel_rfl
theorem laidOut : laidOutB Try.prog = true := by kernel_rfl

set_option maxRecDepth 100000 in
theorem lifted (os : Os) (started : os.Started) (H : Type) (enc : TypeId × Value → H) :
    ReturnsInHanded {} Try.checked os 4 .any (Rows.viewTurnsSpec.pre6 enc Try.prog Try.f4 Rows.viewTurnsRow.domain false) (Rows.viewTurnsSpec.post enc Try.prog Try.f4 false true false false) := by
  refine returnsInHanded_of_change (C := Try.checked) own started (by kernel_rfl) Try.func4
    (ChangeSpec.witness6 (enc := enc) (C := Try.checked) false ⟨#[], #[.int .u32 0, .int .u8 0], []⟩ 8 (by kernel_rfl) (by kernel_rfl) (by kernel_rfl) (by kernel_rfl)) ?_
  intro W base args ds gs before hval0 hW hcnd _
  have hval : ∀ (j : Nat) t v, Try.f4.params[j]? = some t → args[j]? = some v → Value.okWide Try.prog W .any base t v := hval0
  have hW' := hW
  obtain ⟨p, q, hA0, hV, rfl, hfz, hnd⟩ := hW
  have hA : DataW.TrodAll enc Try.prog W 0 (fun _ => true) true Try.f4.params.toList args.toList ds p := hA0
  rw [Try.params4] at hA hval
  obtain ⟨v0, vs0, d0, ds0, p0, q0, hargs, rfl, rfl, h0, r0⟩ := trodAll_cons hA
  obtain ⟨v1, vs1, d1, ds1, p1, q1, rfl, rfl, rfl, h1, r1⟩ := trodAll_cons r0
  obtain ⟨rfl, rfl, rfl⟩ := trodAll_nil r1
  obtain rfl : args = #[v0, v1] := by cases args; simp_all
  obtain ⟨rfl, rfl⟩ := trodVars_none hV
  obtain ⟨a0, rfl, rfl, rfl, w0⟩ := open_int Try.underlying26 (hval 0 26 v0 rfl rfl) h0
  obtain ⟨a1, rfl, rfl, rfl, w1⟩ := open_int Try.underlying5 (hval 1 5 v1 rfl rfl) h1
  clear hA0 hval0
  refine (walk a0 a1 W w0 w1).mono fun e W' ⟨he, bel⟩ => ?_
  subst he
  exact ⟨_, rfl, _, _, _, [], _, [], hW', trodAll_mk1 (shut_bool Try.underlying4 _), (trodAll_cons_mk (shut_int Try.underlying26 w0) (trodAll_cons_mk (shut_int Try.underlying5 w1) trodAll_mk0)), rfl, bel.frame _, fun h => by cases h⟩

theorem over : Rows.viewTurnsRow.holds Try.pinned (OpenSpec.ofChange Rows.viewTurnsSpec) :=
  OpenClaim.holds_of_wide 4 Try.f4 rfl rfl rfl rfl rfl rfl rfl ⟨rfl, rfl, rfl, rfl, rfl⟩ rfl rfl rfl rfl rfl (by kernel_rfl) Try.func4 (by kernel_rfl)
    (of_decide_eq_true (by kernel_rfl)) (by unfold Func.isWrapper; first | (rw [if_pos (by decide +kernel)]; kernel_rfl) | (rw [if_neg (by decide +kernel)]; exact ⟨rfl, rfl⟩))
    (fun os started H enc _ => lifted os started H enc)

/-- The statement. -/
theorem proved : Rows.ViewTurnsSaid := over
#print axioms proved
end Go.Proofs.Ytdjfbojnobjfgaa.viewTurns
