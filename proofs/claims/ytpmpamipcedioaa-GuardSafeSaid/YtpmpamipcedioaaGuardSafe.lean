/- GuardSafe returns true at every input, and its arguments read as they did: no condition. -/
import Derived.Test.YtpmpamipcedioaaRows
import Derived.WalkKit
import Derived.ProofKit
import Derived.OpenShut
import Derived.ShutString
import Derived.ChangeOld
import Derived.Below
import Derived.WalkSpells
import Derived.WalkLawsBesides
import Derived.Handy
import Derived.Test.YtpmpamipcedioaaMem
import Derived.Test.YtpmpamipcedioaaGuard
import Derived.Test.YtpmpamipcedioaaRateW
namespace Go.Proofs.Ytpmpamipcedioaa.guardSafe
open Go.ChangeShapes Go.WideShapes Go.ChangeAt Go.RowKit
open Go.ChangeMaps (open_string shut_string)
set_option linter.unusedVariables false

theorem cross (r n a b : Int) (h0 : 0 ≤ r) (h1 : r ≤ 200) (hb : 1000 * b ≤ (1000 + r) * n) (ha : (1000 - r) * n ≤ 1000 * a) : (1000 - r) * b ≤ (1000 + r) * a := by
  have e1 : (1000 - r) * (1000 * b) ≤ (1000 - r) * ((1000 + r) * n) := Int.mul_le_mul_of_nonneg_left hb (by omega)
  have e2 : (1000 + r) * ((1000 - r) * n) ≤ (1000 + r) * (1000 * a) := Int.mul_le_mul_of_nonneg_left ha (by omega)
  have e3 : (1000 - r) * ((1000 + r) * n) = (1000 + r) * ((1000 - r) * n) := by rw [← Int.mul_assoc, ← Int.mul_assoc, Int.mul_comm (1000 - r)]
  have e4 : (1000 - r) * (1000 * b) = 1000 * ((1000 - r) * b) := by rw [← Int.mul_assoc, Int.mul_comm (1000 - r), Int.mul_assoc]
  have e5 : (1000 + r) * (1000 * a) = 1000 * ((1000 + r) * a) := by rw [← Int.mul_assoc, Int.mul_comm (1000 + r), Int.mul_assoc]
  omega
/-- A move that is drawn so is within the bound, and by no more off than r thousandths. -/
theorem drawn (r n q : Int) (h0 : 0 ≤ r) (h1 : r ≤ 200) (hn : 1 ≤ n) (hn1 : n ≤ 1000) (hq : 0 ≤ q) :
    0 ≤ r * n ∧ r * n ≤ 200000 ∧ 0 ≤ n - r * n / 1000 ∧ 0 ≤ q % (2 * (r * n / 1000) + 1) ∧ q % (2 * (r * n / 1000) + 1) ≤ 2 * (r * n / 1000) ∧ 0 ≤ n - r * n / 1000 + q % (2 * (r * n / 1000) + 1) ∧ n - r * n / 1000 + q % (2 * (r * n / 1000) + 1) ≤ 2000 ∧
      1000 * (n - r * n / 1000 + q % (2 * (r * n / 1000) + 1)) ≤ (1000 + r) * n ∧ (1000 - r) * n ≤ 1000 * (n - r * n / 1000 + q % (2 * (r * n / 1000) + 1)) := by
  have a : 0 ≤ r * n := Int.mul_nonneg h0 (by omega)
  have b : r * n ≤ 200 * 1000 := Int.mul_le_mul h1 hn1 (by omega) (by omega)
  have b2 : r * n ≤ 200 * n := Int.mul_le_mul_of_nonneg_right h1 (by omega)
  have c1 : 0 ≤ q % (2 * (r * n / 1000) + 1) := Int.emod_nonneg _ (by omega)
  have c2 : q % (2 * (r * n / 1000) + 1) < 2 * (r * n / 1000) + 1 := Int.emod_lt_of_pos _ (by omega)
  have d1 : (1000 + r) * n = 1000 * n + r * n := by rw [Int.add_mul]
  have d2 : (1000 - r) * n = 1000 * n - r * n := by rw [Int.sub_mul]
  generalize r * n = P at *
  generalize q % (2 * (P / 1000) + 1) = M at *
  omega
theorem lease (r l m o : Int) (h0 : 0 ≤ r) (h1 : r ≤ 200) (hl : 1 ≤ l) (hl1 : l ≤ 5000) (hrel : (1000 - r) * o ≤ (1000 + r) * m) (hm : m < spanF l r) : o < l := by
  have b := spanF_lo l r hl (by omega) h0 h1
  have c : (1000 + r) * m < (1000 + r) * spanF l r := Int.mul_lt_mul_of_pos_left hm (by omega)
  have d : spanF l r * (1000 + r) = (1000 + r) * spanF l r := Int.mul_comm _ _
  have e : l * (1000 - r) = (1000 - r) * l := Int.mul_comm _ _
  exact Int.lt_of_mul_lt_mul_left (a := 1000 - r) (by omega) (by omega)

def SafeRel (len : Nat) (r : Int) (i m_ o_ : Value) : Prop :=
  ∃ (k : Nat) (m o : Int), k ≤ len ∧ i = .int .i64 k ∧ m_ = .int .i64 m ∧ o_ = .int .i64 o ∧ 0 ≤ m ∧ m ≤ 2000 * k ∧ 0 ≤ o ∧ o ≤ 2000 * k ∧ (1000 - r) * o ≤ (1000 + r) * m
theorem safe_step {len k : Nat} {r m o a b : Int} (hk : k < len) (hm0 : 0 ≤ m) (hm1 : m ≤ 2000 * k) (ho0 : 0 ≤ o) (ho1 : o ≤ 2000 * k) (hrel : (1000 - r) * o ≤ (1000 + r) * m) (ha0 : 0 ≤ a) (ha1 : a ≤ 2000) (hb0 : 0 ≤ b) (hb1 : b ≤ 2000) (hc : (1000 - r) * b ≤ (1000 + r) * a) :
    (1000 - r) * (o + b) ≤ (1000 + r) * (m + a) ∧ SafeRel len r (.int .i64 ((k : Int) + 1)) (.int .i64 (m + a)) (.int .i64 (o + b)) := by
  have h : (1000 - r) * (o + b) ≤ (1000 + r) * (m + a) := by rw [Int.mul_add, Int.mul_add]; omega
  exact ⟨h, k + 1, m + a, o + b, by omega, by go_num, rfl, rfl, by omega, by omega, by omega, by omega, h⟩

set_option maxRecDepth 100000 in
set_option maxHeartbeats 1000000 in
theorem walk (a0 : Int) (a1 : Int) (a2 : Option Addr) (len2 cap2 : Nat) (z2 : List Int) (a3 : Option Addr) (len3 cap3 : Nat) (z3 : List Int) (w : World) (w0 : (Lit.int .u16 a0).wf = true) (w1 : (Lit.int .u8 a1).wf = true) (w2 : IsRow .u16 w a2 len2 cap2 z2) (w3 : IsRow .u16 w a3 len3 cap3 z3) :
    Calls Try.prog 9 #[.int .u16 a0, .int .u8 a1, .slice a2 len2 cap2, .slice a3 len3 cap3] w fun e w' => e = .returned (.bool true) ∧ Below w.heap.size w w' := by
  have h0 := bounds_u16 w0
  have h1 := bounds_u8 w1
  clear w0 w1
  obtain ⟨hl, hwz, hc⟩ := w2.at
  obtain ⟨hl3, hwz3, hc3⟩ := w3.at
  clear w2 w3
  have Hc := Lib.hid hc
  have Hwz := Lib.hid hwz
  have Hc3 := Lib.hid hc3
  have Hwz3 := Lib.hid hwz3
  clear hc hwz hc3 hwz3
  by_cases h60 : 60 < len2
  · go_enter Try.func9, Try.ntmps9
    go_wp2_with fail
    refine (awake24_any _).mono ?_
    rintro e w5 ⟨rfl, rfl⟩
    go_wp2_with fail
    go_ret
    exact ⟨rfl, Below.refl _ _⟩
  · have h60' : len2 ≤ 60 := by omega
    clear h60
    by_cases hs : len3 < 2 * len2
    · go_enter Try.func9, Try.ntmps9
      go_wp2_with fail
      refine (awake24_any _).mono ?_
      rintro e w5 ⟨rfl, rfl⟩
      go_wp2_with fail
      go_ret
      exact ⟨rfl, Below.refl _ _⟩
    · have hs' : 2 * len2 ≤ len3 := by omega
      clear hs
      have Hstart : Hid (SafeRel len2 (a1 % 201) (.int .i64 0) (.int .i64 0) (.int .i64 0)) := ⟨0, 0, 0, by omega, rfl, rfl, rfl, by omega, by omega, by omega, by omega, by omega⟩
      go_enter Try.func9, Try.ntmps9
      go_wp2_with fail
      go_loop [11, 12, 13] (fun m o i => SafeRel len2 (a1 % 201) i m o) (fun _ _ i => len2 - (intOf i).toNat)
      case atStart => exact Hstart.out
      case round =>
        clear Hstart
        obtain ⟨k, m, o, hk, rfl, rfl, rfl, hm0, hm1, ho0, ho1, hrl⟩ := hrel
        by_cases hlt : k < len2
        · obtain ⟨b, off, ha, hblt, hcell⟩ := Hc.out (by omega)
          obtain ⟨b3, off3, ha3, hblt3, hcell3⟩ := Hc3.out (by omega)
          subst ha
          subst ha3
          have hz := bounds_u16 (Hwz.out k hlt)
          have hza := bounds_u16 (Hwz3.out (2 * k) (by omega))
          have hzb := bounds_u16 (Hwz3.out (2 * k + 1) (by omega))
          have c1 := hcell k hlt
          have c2 := hcell3 (2 * k) (by omega)
          have c3 := hcell3 (2 * k + 1) (by omega)
          obtain ⟨p1, p2, p3, p4, p5, p6, p7, p8, p9⟩ := drawn (a1 % 201) (1 + zat z2 k % 1000) (zat z3 (2 * k)) (by omega) (by omega) (by omega) (by omega) (by omega)
          obtain ⟨_, _, _, q4, q5, q6, q7, q8, q9⟩ := drawn (a1 % 201) (1 + zat z2 k % 1000) (zat z3 (2 * k + 1)) (by omega) (by omega) (by omega) (by omega) (by omega)
          have ea := withinB_true (n := 1 + zat z2 k % 1000) (m := 1 + zat z2 k % 1000 - a1 % 201 * (1 + zat z2 k % 1000) / 1000 + zat z3 (2 * k) % (2 * (a1 % 201 * (1 + zat z2 k % 1000) / 1000) + 1)) (r := a1 % 201) (by
            rw [Int.add_mul] at p8; rw [Int.sub_mul] at p9; omega)
          have eb := withinB_true (n := 1 + zat z2 k % 1000) (m := 1 + zat z2 k % 1000 - a1 % 201 * (1 + zat z2 k % 1000) / 1000 + zat z3 (2 * k + 1) % (2 * (a1 % 201 * (1 + zat z2 k % 1000) / 1000) + 1)) (r := a1 % 201) (by
            rw [Int.add_mul] at q8; rw [Int.sub_mul] at q9; omega)
          obtain ⟨st1, st2⟩ := safe_step hlt hm0 hm1 ho0 ho1 hrl p6 p7 q6 q7 (cross (a1 % 201) (1 + zat z2 k % 1000) _ _ (by omega) (by omega) q8 p9)
          have hls := lease (a1 % 201) (1 + a0 % 5000) _ _ (by omega) (by omega) (by omega) (by omega) st1
          have St2 := Lib.hid st2
          have Hls := Lib.hid hls
          have sb := spanF_bd (1 + a0 % 5000) (a1 % 201)
          have hi0 : (0 : Int) ≤ (k : Int) := by omega
          have hi1 : (k : Int) < (len2 : Int) := by omega
          have hi2 : 2 * (k : Int) + 1 < (len3 : Int) := by omega
          clear st1 st2 hls hcell hcell3 hrl p8 p9 q8 q9
          go_wp2_with (first | (go_at_call 24; refine (within_any _ _ _ _).mono ?_; rintro e w' ⟨rfl, rfl⟩) | (go_at_call 17; refine (span_any _ _ _).mono ?_; rintro e w' ⟨rfl, rfl⟩))
          · exfalso
            have hx := Hls.out (by assumption)
            omega
          · exact ⟨St2.out, by simp [intOf]; omega⟩
          · exact ⟨St2.out, by simp [intOf]; omega⟩
        · go_wp2_with fail
          refine (awake24_any _).mono ?_
          rintro e w5 ⟨rfl, rfl⟩
          go_wp2_with fail
          go_ret
          exact ⟨rfl, Below.refl _ _⟩

theorem own : ownKnob Try.prog.godebug = none := by kernel_rfl
theorem laidOut : laidOutB Try.prog = true := by kernel_rfl

set_option maxRecDepth 100000 in
theorem lifted (os : Os) (started : os.Started) (H : Type) (enc : TypeId × Value → H) :
    ReturnsInHanded {} Try.checked os 9 .any (Rows.guardSafeSpec.pre6 enc Try.prog Try.f9 Rows.guardSafeRow.domain false) (Rows.guardSafeSpec.post enc Try.prog Try.f9 false true false false) := by
  refine returnsInHanded_of_change (C := Try.checked) own started (by kernel_rfl) Try.func9
    (ChangeSpec.witness6 (enc := enc) (C := Try.checked) false ⟨#[], #[.int .u16 0, .int .u8 0, .slice none 0 0, .slice none 0 0], []⟩ 8 (by kernel_rfl) (by kernel_rfl) (by kernel_rfl) (by kernel_rfl)) ?_
  intro W base args ds gs before hval0 hW hcnd _
  have hval : ∀ (j : Nat) t v, Try.f9.params[j]? = some t → args[j]? = some v → Value.okWide Try.prog W .any base t v := hval0
  have hW' := hW
  obtain ⟨p, q, hA0, hV, rfl, hfz, hnd⟩ := hW
  have hA : DataW.TrodAll enc Try.prog W 0 (fun _ => true) true Try.f9.params.toList args.toList ds p := hA0
  rw [Try.params9] at hA hval
  obtain ⟨v0, vs0, d0, ds0, p0, q0, hargs, rfl, rfl, h0, r0⟩ := trodAll_cons hA
  obtain ⟨v1, vs1, d1, ds1, p1, q1, rfl, rfl, rfl, h1, r1⟩ := trodAll_cons r0
  obtain ⟨v2, vs2, d2, ds2, p2, q2, rfl, rfl, rfl, h2, r2⟩ := trodAll_cons r1
  obtain ⟨v3, vs3, d3, ds3, p3, q3, rfl, rfl, rfl, h3, r3⟩ := trodAll_cons r2
  obtain ⟨rfl, rfl, rfl⟩ := trodAll_nil r3
  obtain rfl : args = #[v0, v1, v2, v3] := by cases args; simp_all
  obtain ⟨rfl, rfl⟩ := trodVars_none hV
  obtain ⟨a0, rfl, rfl, rfl, w0⟩ := open_int Try.underlying35 (hval 0 35 v0 rfl rfl) h0
  obtain ⟨a1, rfl, rfl, rfl, w1⟩ := open_int Try.underlying5 (hval 1 5 v1 rfl rfl) h1
  obtain ⟨a2, len2, cap2, rfl⟩ := okWide_slice Try.underlying34 (hval 2 34 v2 rfl rfl)
  have k2 := h2
  have lt2 : ∀ x ∈ p2, x.block < W.heap.size := by obtain ⟨m, hm⟩ := k2; exact DataW.trod_lt m _ _ _ hm
  obtain ⟨z2, w2⟩ : ∃ zs, IsRow .u16 W a2 len2 cap2 zs := by
    obtain ⟨fuel, hf⟩ := h2
    rcases open_ints Try.underlying34 Try.underlying35 (by kernel_rfl) hf with ⟨hcs, _⟩ | ⟨x, l, c, zs, hcs, _, hl, hm, hz, _, hcell, hwz⟩
    · simp [Value.cells] at hcs
      obtain ⟨rfl, rfl, rfl⟩ := hcs
      exact ⟨[], .inl ⟨rfl, rfl, rfl, rfl⟩⟩
    · simp [Value.cells] at hcs
      obtain ⟨rfl, rfl, rfl⟩ := hcs
      exact ⟨zs, .inr ⟨_, rfl, hl, hm, by simpa using hz, hcell, hwz⟩⟩
  obtain ⟨a3, len3, cap3, rfl⟩ := okWide_slice Try.underlying34 (hval 3 34 v3 rfl rfl)
  have k3 := h3
  have lt3 : ∀ x ∈ p3, x.block < W.heap.size := by obtain ⟨m, hm⟩ := k3; exact DataW.trod_lt m _ _ _ hm
  obtain ⟨z3, w3⟩ : ∃ zs, IsRow .u16 W a3 len3 cap3 zs := by
    obtain ⟨fuel, hf⟩ := h3
    rcases open_ints Try.underlying34 Try.underlying35 (by kernel_rfl) hf with ⟨hcs, _⟩ | ⟨x, l, c, zs, hcs, _, hl, hm, hz, _, hcell, hwz⟩
    · simp [Value.cells] at hcs
      obtain ⟨rfl, rfl, rfl⟩ := hcs
      exact ⟨[], .inl ⟨rfl, rfl, rfl, rfl⟩⟩
    · simp [Value.cells] at hcs
      obtain ⟨rfl, rfl, rfl⟩ := hcs
      exact ⟨zs, .inr ⟨_, rfl, hl, hm, by simpa using hz, hcell, hwz⟩⟩
  clear hA0 hval0
  refine (walk a0 a1 a2 len2 cap2 z2 a3 len3 cap3 z3 W w0 w1 w2 w3).mono fun e W' ⟨he, bel⟩ => ?_
  subst he
  exact ⟨_, rfl, _, _, _, [], _, [], hW', trodAll_mk1 (shut_bool Try.underlying4 _), (trodAll_cons_mk (shut_int Try.underlying35 w0) (trodAll_cons_mk (shut_int Try.underlying5 w1) (trodAll_cons_mk (Below.trod laidOut (by kernel_rfl) (of_decide_eq_true (by kernel_rfl)) k2 bel lt2) (trodAll_cons_mk (Below.trod laidOut (by kernel_rfl) (of_decide_eq_true (by kernel_rfl)) k3 bel lt3) trodAll_mk0)))), rfl, bel.frame _, fun h => by cases h⟩

theorem over : Rows.guardSafeRow.holds Try.pinned (OpenSpec.ofChange Rows.guardSafeSpec) :=
  OpenClaim.holds_of_wide 9 Try.f9 rfl rfl rfl rfl rfl rfl rfl ⟨rfl, rfl, rfl, rfl, rfl⟩ rfl rfl rfl rfl rfl (by kernel_rfl) Try.func9 (by kernel_rfl)
    (of_decide_eq_true (by kernel_rfl)) (by unfold Func.isWrapper; first | (rw [if_pos (by decide +kernel)]; kernel_rfl) | (rw [if_neg (by decide +kernel)]; exact ⟨rfl, rfl⟩))
    (fun os started H enc _ => lifted os started H enc)

/-- The statement. -/
theorem proved : Rows.GuardSafeSaid := over
#print axioms proved
end Go.Proofs.Ytpmpamipcedioaa.guardSafe
