/- StampRises returns true at every input, and its arguments read as they did: no condition. -/
import Derived.Test.YtpmpamipcedioaaRows
import Derived.WalkKit
import Derived.ProofKit
import Derived.OpenShut
import Derived.ShutString
import Derived.ChangeOld
import Derived.Below
import Derived.WalkSpells
import Derived.WalkLawsBesides
import Derived.Handy
import Derived.Test.YtpmpamipcedioaaMem
import Derived.Test.YtpmpamipcedioaaStamp
namespace Go.Proofs.Ytpmpamipcedioaa.stampRises
open Go.ChangeShapes Go.WideShapes Go.ChangeAt Go.RowKit
open Go.ChangeMaps (open_string shut_string)
set_option linter.unusedVariables false

def RisesRel (B g len : Nat) (b n : Int) (w : World) (i at_ : Value) (wr : World) : Prop :=
  ∃ (k : Nat) (x t : Int), k ≤ len ∧ i = .int .i64 k ∧ at_ = .int .i64 x ∧ n ≤ x ∧ x ≤ n + 65535 * k ∧ 0 ≤ t ∧ t ≤ b + x - n ∧ Blk wr g 51 #[.int .i64 b, .int .i64 n, .int .i64 t] ∧ Below B w wr
theorem near_in (n : Int) (h0 : 0 ≤ n) (h1 : n ≤ 2305843009213693952) : nearF n = n := by unfold nearF; omega
theorem at_up (b n t x : Int) (hb : 0 ≤ b) (hn : 0 ≤ n) (hx : n ≤ x) (hm : x ≤ 4294967295000) (hbm : b ≤ 4294967295000) (ht : t ≤ b + x - n) : atF b n t x = b + x - n := by
  unfold atF onF; rw [near_in x (by omega) (by omega)]; omega
theorem at_back (b n x y : Int) (hb : 0 ≤ b) (hn : 0 ≤ n) (hx : n ≤ y) (hy : y ≤ x) (hm : x ≤ 4294967295000) (hbm : b ≤ 4294967295000) : atF b n (b + x - n) y = b + x - n := by
  unfold atF onF; rw [near_in y (by omega) (by omega)]; omega
theorem ex_h : nearF 2305843009213693949 = 2305843009213693949 := by decide
theorem ex_0 : nearF 0 = 0 := by decide
theorem ex_1 : atF 2305843009213693949 0 0 2 = 2305843009213693951 := by decide
theorem ex_2 : atF 2305843009213693949 0 2305843009213693951 9 = 2305843009213693952 := by decide

set_option maxHeartbeats 400000 in
theorem walk (a0 : Int) (a1 : Int) (a2 : Option Addr) (len2 cap2 : Nat) (z2 : List Int) (w : World) (w0 : (Lit.int .u32 a0).wf = true) (w1 : (Lit.int .u32 a1).wf = true) (w2 : IsRow .u16 w a2 len2 cap2 z2) :
    Calls Try.prog 4 #[.int .u32 a0, .int .u32 a1, .slice a2 len2 cap2] w fun e w' => e = .returned (.bool true) ∧ Below w.heap.size w w' := by
  have h0 := bounds_u32 w0
  have h1 := bounds_u32 w1
  clear w0 w1
  obtain ⟨hl, hwz, hc⟩ := w2.at
  clear w2
  have Hc := Lib.hid hc
  have Hwz := Lib.hid hwz
  clear hc hwz
  by_cases h60 : 60 < len2
  · go_enter Try.func4, Try.ntmps4
    go_wp2_with fail
    refine (awake20_any _).mono ?_
    rintro e w5 ⟨rfl, hg5⟩
    go_wp2_with fail
    go_ret
    exact ⟨rfl, below_only (Below.refl _ _) (Nat.le_refl _) hg5 (by simp)⟩
  · have h60' : len2 ≤ 60 := by omega
    clear h60
    go_enter Try.func4, Try.ntmps4
    go_wp2_with fail
    refine (new_own a0 a1 w).mono ?_
    rintro e w1 ⟨rfl, hb1, hg1, hs1⟩
    rw [near_in a0 (by omega) (by omega), near_in a1 (by omega) (by omega)] at hb1
    have hall : Below w.heap.size w w1 := below_only (Below.refl _ _) (Nat.le_refl _) hg1 (by simp)
    have Hstart : Hid (RisesRel w.heap.size w.heap.size len2 a0 a1 w (.int .i64 0) (.int .i64 a1) w1) := ⟨0, a1, 0, by omega, rfl, rfl, by omega, by omega, by omega, by omega, hb1, hall⟩
    clear hall hb1 hg1 hs1
    go_wp2_with fail
    go_loopw [8, 9] (fun x i wr => RisesRel w.heap.size w.heap.size len2 a0 a1 w i x wr) (fun _ i _ => len2 - (intOf i).toNat)
    case atStart => exact Hstart.out
    case round =>
      clear Hstart
      obtain ⟨k, x, t, hk, rfl, rfl, hx0, hx1, ht0, ht1, hb1, hb⟩ := hrel
      by_cases hlt : k < len2
      · obtain ⟨b, off, ha, hblt, hcell⟩ := Hc.out (by omega)
        subst ha
        have hz := bounds_u16 (Hwz.out k hlt)
        have hc2 := row_below hcell hb hblt k hlt
        have hi0 : (0 : Int) ≤ (k : Int) := by omega
        have hi1 : (k : Int) < (len2 : Int) := by omega
        have e1 := at_up a0 a1 t (x + zat z2 k) (by omega) (by omega) (by omega) (by omega) (by omega) (by omega)
        have e2 := at_back a0 a1 (x + zat z2 k) x (by omega) (by omega) (by omega) (by omega) (by omega) (by omega)
        have e3 : x + zat z2 k - zat z2 k = x := by omega
        have Hb := Lib.hid hb
        have Hb1 := Lib.hid hb1
        clear hb hb1 hcell
        go_wp2_with fail
        refine (at_own w.heap.size a0 a1 t _ _ Hb1.out (by omega) (by omega)).mono ?_
        rintro e w2 ⟨rfl, hb2, hg2⟩
        have hc3 := keep_far hg2 (by omega) hc2
        rw [e1] at hb2
        go_wp2_with fail
        refine (at_own w.heap.size a0 a1 (a0 + (x + zat z2 k) - a1) _ _ hb2 (by omega) (by omega)).mono ?_
        rintro e w3 ⟨rfl, hb3, hg3⟩
        rw [e2] at hb3
        have hall : Below w.heap.size w w3 := below_only (below_only Hb.out Hb.out.size hg2 (by simp)) (by have := hg2.size; have := Hb.out.size; omega) hg3 (by simp)
        have Hrel : Hid (RisesRel w.heap.size w.heap.size len2 a0 a1 w (.int .i64 ((k : Int) + 1)) (.int .i64 (x + zat z2 k)) w3) :=
          ⟨k + 1, _, _, by omega, by go_num, rfl, by omega, by omega, by omega, by omega, hb3, hall⟩
        clear hall hb3 hg3 hb2 hg2 hc2 hc3
        go_wp2_with fail
        exact ⟨Hrel.out, by simp [intOf]; omega⟩
      · go_wp2_with fail
        refine (new_own _ _ _).mono ?_
        rintro e w2 ⟨rfl, hb2, hg2, hs2⟩
        rw [ex_h, ex_0] at hb2
        have x1 := ex_1
        have x2 := ex_2
        go_wp2_with fail
        refine (at_own _ _ _ _ _ _ hb2 (by omega) (by omega)).mono ?_
        rintro e w3 ⟨rfl, hb3, hg3⟩
        rw [ex_1] at hb3
        go_wp2_with fail
        refine (at_own _ _ _ _ _ _ hb3 (by omega) (by omega)).mono ?_
        rintro e w4 ⟨rfl, hb4, hg4⟩
        go_wp2_with fail
        refine (at_nil _ _).mono ?_
        rintro e w5 ⟨rfl, rfl⟩
        go_wp2_with fail
        refine (base_nil _).mono ?_
        rintro e w5 ⟨rfl, rfl⟩
        go_wp2_with fail
        refine (awake20_any _).mono ?_
        rintro e w5 ⟨rfl, hg5⟩
        go_wp2_with fail
        go_ret
        have sz := hb.size
        exact ⟨rfl, below_only (below_only (below_only (below_only hb sz hg2 (by simp)) (by omega) hg3 (by simp; omega)) (by have := hg3.size; omega) hg4 (by simp; omega)) (by have := hg3.size; have := hg4.size; omega) hg5 (by simp)⟩

theorem own : ownKnob Try.prog.godebug = none := by kernel_rfl
theorem laidOut : laidOutB Try.prog = true := by kernel_rfl

set_option maxRecDepth 100000 in
theorem lifted (os : Os) (started : os.Started) (H : Type) (enc : TypeId × Value → H) :
    ReturnsInHanded {} Try.checked os 4 .any (Rows.stampRisesSpec.pre6 enc Try.prog Try.f4 Rows.stampRisesRow.domain false) (Rows.stampRisesSpec.post enc Try.prog Try.f4 false true false false) := by
  refine returnsInHanded_of_change (C := Try.checked) own started (by kernel_rfl) Try.func4
    (ChangeSpec.witness6 (enc := enc) (C := Try.checked) false ⟨#[], #[.int .u32 0, .int .u32 0, .slice none 0 0], []⟩ 8 (by kernel_rfl) (by kernel_rfl) (by kernel_rfl) (by kernel_rfl)) ?_
  intro W base args ds gs before hval0 hW hcnd _
  have hval : ∀ (j : Nat) t v, Try.f4.params[j]? = some t → args[j]? = some v → Value.okWide Try.prog W .any base t v := hval0
  have hW' := hW
  obtain ⟨p, q, hA0, hV, rfl, hfz, hnd⟩ := hW
  have hA : DataW.TrodAll enc Try.prog W 0 (fun _ => true) true Try.f4.params.toList args.toList ds p := hA0
  rw [Try.params4] at hA hval
  obtain ⟨v0, vs0, d0, ds0, p0, q0, hargs, rfl, rfl, h0, r0⟩ := trodAll_cons hA
  obtain ⟨v1, vs1, d1, ds1, p1, q1, rfl, rfl, rfl, h1, r1⟩ := trodAll_cons r0
  obtain ⟨v2, vs2, d2, ds2, p2, q2, rfl, rfl, rfl, h2, r2⟩ := trodAll_cons r1
  obtain ⟨rfl, rfl, rfl⟩ := trodAll_nil r2
  obtain rfl : args = #[v0, v1, v2] := by cases args; simp_all
  obtain ⟨rfl, rfl⟩ := trodVars_none hV
  obtain ⟨a0, rfl, rfl, rfl, w0⟩ := open_int Try.underlying33 (hval 0 33 v0 rfl rfl) h0
  obtain ⟨a1, rfl, rfl, rfl, w1⟩ := open_int Try.underlying33 (hval 1 33 v1 rfl rfl) h1
  obtain ⟨a2, len2, cap2, rfl⟩ := okWide_slice Try.underlying34 (hval 2 34 v2 rfl rfl)
  have k2 := h2
  have lt2 : ∀ x ∈ p2, x.block < W.heap.size := by obtain ⟨m, hm⟩ := k2; exact DataW.trod_lt m _ _ _ hm
  obtain ⟨z2, w2⟩ : ∃ zs, IsRow .u16 W a2 len2 cap2 zs := by
    obtain ⟨fuel, hf⟩ := h2
    rcases open_ints Try.underlying34 Try.underlying35 (by kernel_rfl) hf with ⟨hcs, _⟩ | ⟨x, l, c, zs, hcs, _, hl, hm, hz, _, hcell, hwz⟩
    · simp [Value.cells] at hcs
      obtain ⟨rfl, rfl, rfl⟩ := hcs
      exact ⟨[], .inl ⟨rfl, rfl, rfl, rfl⟩⟩
    · simp [Value.cells] at hcs
      obtain ⟨rfl, rfl, rfl⟩ := hcs
      exact ⟨zs, .inr ⟨_, rfl, hl, hm, by simpa using hz, hcell, hwz⟩⟩
  clear hA0 hval0
  refine (walk a0 a1 a2 len2 cap2 z2 W w0 w1 w2).mono fun e W' ⟨he, bel⟩ => ?_
  subst he
  exact ⟨_, rfl, _, _, _, [], _, [], hW', trodAll_mk1 (shut_bool Try.underlying4 _), (trodAll_cons_mk (shut_int Try.underlying33 w0) (trodAll_cons_mk (shut_int Try.underlying33 w1) (trodAll_cons_mk (Below.trod laidOut (by kernel_rfl) (of_decide_eq_true (by kernel_rfl)) k2 bel lt2) trodAll_mk0))), rfl, bel.frame _, fun h => by cases h⟩

theorem over : Rows.stampRisesRow.holds Try.pinned (OpenSpec.ofChange Rows.stampRisesSpec) :=
  OpenClaim.holds_of_wide 4 Try.f4 rfl rfl rfl rfl rfl rfl rfl ⟨rfl, rfl, rfl, rfl, rfl⟩ rfl rfl rfl rfl rfl (by kernel_rfl) Try.func4 (by kernel_rfl)
    (of_decide_eq_true (by kernel_rfl)) (by unfold Func.isWrapper; first | (rw [if_pos (by decide +kernel)]; kernel_rfl) | (rw [if_neg (by decide +kernel)]; exact ⟨rfl, rfl⟩))
    (fun os started H enc _ => lifted os started H enc)

/-- The statement. -/
theorem proved : Rows.StampRisesSaid := over
#print axioms proved
end Go.Proofs.Ytpmpamipcedioaa.stampRises
