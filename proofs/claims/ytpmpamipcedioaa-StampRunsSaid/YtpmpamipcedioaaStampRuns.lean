/- StampRuns returns true at every input, and its arguments read as they did: no condition. -/
import Derived.Test.YtpmpamipcedioaaRows
import Derived.WalkKit
import Derived.ProofKit
import Derived.OpenShut
import Derived.ShutString
import Derived.ChangeOld
import Derived.Below
import Derived.WalkSpells
import Derived.WalkLawsBesides
import Derived.Handy
import Derived.Deep.QuietTactic
import Derived.BigQuiet
import Derived.Deep.RegionHeld3
import Derived.Deep.AppendLies
import Derived.Test.YtpmpamipcedioaaMem
import Derived.Test.YtpmpamipcedioaaStamp
namespace Go.Proofs.Ytpmpamipcedioaa.stampRuns
open Go.ChangeShapes Go.WideShapes Go.ChangeAt Go.RowKit
open Go.ChangeMaps (open_string shut_string)
set_option linter.unusedVariables false

/-- What holds at each round: the two stamps, of one base and one beginning, have told the same, but for the base that the reference has told at its start. -/
def RunsRel (B g1 g2 len : Nat) (b f : Int) (w : World) (i : Value) (wr : World) : Prop :=
  ∃ (k : Nat) (t t' : Int), k ≤ len ∧ i = .int .i64 k ∧ Blk wr g1 51 #[.int .i64 b, .int .i64 f, .int .i64 t] ∧ Blk wr g2 30 #[.int .i64 b, .int .i64 f, .int .i64 t'] ∧
    t' = (if t < b then b else t) ∧ Below B w wr ∧ g1 < wr.heap.size ∧ g2 < wr.heap.size
theorem at_same (b f t n : Int) (hb : b ≤ 2305843009213693952) : atF b f (if t < b then b else t) n = atF b f t n ∧ b ≤ atF b f t n := by
  unfold atF
  have h0 : 0 ≤ onF f n := by unfold onF; omega
  omega

set_option maxHeartbeats 400000 in
theorem walk (a0 : Int) (a1 : Int) (a2 : Option Addr) (len2 cap2 : Nat) (z2 : List Int) (w : World) (w0 : (Lit.int .i64 a0).wf = true) (w1 : (Lit.int .i64 a1).wf = true) (w2 : IsRow .i64 w a2 len2 cap2 z2) :
    Calls Try.prog 3 #[.int .i64 a0, .int .i64 a1, .slice a2 len2 cap2] w fun e w' => e = .returned (.bool true) ∧ Below w.heap.size w w' := by
  clear w0 w1
  obtain ⟨hl, _, hc⟩ := w2.at
  clear w2
  have Hc := Lib.hid hc
  clear hc
  by_cases h60 : 60 < len2
  · go_enter Try.func3, Try.ntmps3
    go_wp2_with fail
    refine (awake20_any _).mono ?_
    rintro e w5 ⟨rfl, hg5⟩
    go_wp2_with fail
    go_ret
    exact ⟨rfl, below_only (Below.refl _ _) (Nat.le_refl _) hg5 (by simp)⟩
  · have h60' : len2 ≤ 60 := by omega
    clear h60
    go_enter Try.func3, Try.ntmps3
    go_wp2_with fail
    refine (new_own a0 a1 w).mono ?_
    rintro e w1 ⟨rfl, hb1, hg1, hs1⟩
    go_wp2_with fail
    refine (rnew_own a0 a1 w1).mono ?_
    rintro e w2 ⟨rfl, hb2, hg2, hs2⟩
    have hb1' := hb1.kept hg2 (by simp)
    have c0 : w2.cell? ⟨w1.heap.size, 0, none⟩ = some (.int .i64 (nearF a0)) := hb2.cell 0
    have hall : Below w.heap.size w w2 := below_only (below_only (Below.refl _ _) (Nat.le_refl _) hg1 (by simp)) (by omega) hg2 (by simp)
    have Hall := Lib.hid hall
    have Hb1 := Lib.hid hb1'
    have Hb2 := Lib.hid hb2
    clear hall hb1 hg1 hb2 hg2
    go_wp2_with fail
    go_quiet ((go_at_call 14; exact quiet_left (base_own _ _ _ _ _ Hb1.out)))
    clear c0
    go_wp2_with fail
    have hstart : RunsRel w.heap.size w.heap.size w1.heap.size len2 (nearF a0) (nearF a1) w (.int .i64 0) (w2.drewN nq) := ⟨0, 0, nearF a0, by omega, rfl, Hb1.out, Hb2.out, by have := nearF_bd a0; omega, below_drewN Hall.out nq, Hb1.out.lt, Hb2.out.lt⟩
    go_loopw [9] (fun i wr => RunsRel w.heap.size w.heap.size w1.heap.size len2 (nearF a0) (nearF a1) w i wr) (fun i _ => len2 - (intOf i).toNat)
    case atStart => exact hstart
    case round =>
      clear hstart
      obtain ⟨k, t, t', hk, rfl, hb1, hb2, ht', hb, hs1', hs2'⟩ := hrel
      by_cases hlt : k < len2
      · obtain ⟨b, off, ha, hblt, hcell⟩ := Hc.out (by omega)
        subst ha
        have hc2 := row_below hcell hb hblt k hlt
        have hi0 : (0 : Int) ≤ (k : Int) := by omega
        have hi1 : (k : Int) < (len2 : Int) := by omega
        have hgg : w.heap.size ≠ w1.heap.size := by omega
        have nb0 := nearF_bd a0
        have asm := at_same (nearF a0) (nearF a1) t (zat z2 k) (by omega)
        rw [← ht'] at asm
        have Hb := Lib.hid hb
        have Ht := Lib.hid ht'
        have Has := Lib.hid asm
        clear ht' hb hcell asm
        have hb1' := Lib.hid hb1
        have hb2' := Lib.hid hb2
        go_wp2_with fail
        go_region_held3 (fun w' => w'.cell? ⟨b, off + k, none⟩ = some (.int .i64 (zat z2 k)))
          (first | assumption | go_keep)
          (first
            | (go_at_call 15; refine (at_own w.heap.size (nearF a0) (nearF a1) t _ _ ?_ (nearF_bd _) (nearF_bd _)).mono ?_; exact hb1; rintro e w3 ⟨rfl, hb3, hg3⟩; have hS3 := keep_far (b := b) (o := off + k) (v := .int .i64 (zat z2 k)) hg3 (by omega) hc2)
            | (go_at_call 16; refine (rat_own w1.heap.size (nearF a0) (nearF a1) t' _ _ ?_ (nearF_bd _) (nearF_bd _)).mono ?_; exact (Blk.drew hb2).kept hg3 (by intro e; injection e with e; omega); rintro e w4 ⟨rfl, hb4, hg4⟩; have hS4 := keep_far (b := b) (o := off + k) (v := .int .i64 (zat z2 k)) hg4 (by omega) hS3))
        have hb3' := hb3.kept hg4 (by intro e; injection e with e; omega)
        have hall : Below w.heap.size w w4 := below_only (below_only (below_drewN Hb.out 1) (by have := Hb.out.size; exact this) hg3 (by simp)) (by have := hg3.size; have := Hb.out.size; simp at *; omega) hg4 (by simp; omega)
        have has := Has.out
        have hrel : RunsRel w.heap.size w.heap.size w1.heap.size len2 (nearF a0) (nearF a1) w (.int .i64 ((k : Int) + 1)) w4 :=
          ⟨k + 1, _, _, by omega, by go_num, hb3', hb4, by omega, hall, hb3'.lt, hb4.lt⟩
        have Hrel := Lib.hid hrel
        have hne := has.1
        clear hrel hall hb3' hb3 hb4 hg3 hg4 hb1 hb2 hs1' hs2' has hS3 hS4 hgg Has
        go_wp2_with fail
        exact ⟨Hrel.out, by simp [intOf]; omega⟩
      · go_wp2_with fail
        refine (awake20_any _).mono ?_
        rintro e w5 ⟨rfl, hg5⟩
        go_wp2_with fail
        go_ret
        exact ⟨rfl, below_only hb (by omega) hg5 (by simp)⟩

theorem own : ownKnob Try.prog.godebug = none := by kernel_rfl
theorem laidOut : laidOutB Try.prog = true := by kernel_rfl

set_option maxRecDepth 100000 in
theorem lifted (os : Os) (started : os.Started) (H : Type) (enc : TypeId × Value → H) :
    ReturnsInHanded {} Try.checked os 3 .any (Rows.stampRunsSpec.pre6 enc Try.prog Try.f3 Rows.stampRunsRow.domain false) (Rows.stampRunsSpec.post enc Try.prog Try.f3 false true false false) := by
  refine returnsInHanded_of_change (C := Try.checked) own started (by kernel_rfl) Try.func3
    (ChangeSpec.witness6 (enc := enc) (C := Try.checked) false ⟨#[], #[.int .i64 0, .int .i64 0, .slice none 0 0], []⟩ 8 (by kernel_rfl) (by kernel_rfl) (by kernel_rfl) (by kernel_rfl)) ?_
  intro W base args ds gs before hval0 hW hcnd _
  have hval : ∀ (j : Nat) t v, Try.f3.params[j]? = some t → args[j]? = some v → Value.okWide Try.prog W .any base t v := hval0
  have hW' := hW
  obtain ⟨p, q, hA0, hV, rfl, hfz, hnd⟩ := hW
  have hA : DataW.TrodAll enc Try.prog W 0 (fun _ => true) true Try.f3.params.toList args.toList ds p := hA0
  rw [Try.params3] at hA hval
  obtain ⟨v0, vs0, d0, ds0, p0, q0, hargs, rfl, rfl, h0, r0⟩ := trodAll_cons hA
  obtain ⟨v1, vs1, d1, ds1, p1, q1, rfl, rfl, rfl, h1, r1⟩ := trodAll_cons r0
  obtain ⟨v2, vs2, d2, ds2, p2, q2, rfl, rfl, rfl, h2, r2⟩ := trodAll_cons r1
  obtain ⟨rfl, rfl, rfl⟩ := trodAll_nil r2
  obtain rfl : args = #[v0, v1, v2] := by cases args; simp_all
  obtain ⟨rfl, rfl⟩ := trodVars_none hV
  obtain ⟨a0, rfl, rfl, rfl, w0⟩ := open_int Try.underlying3 (hval 0 3 v0 rfl rfl) h0
  obtain ⟨a1, rfl, rfl, rfl, w1⟩ := open_int Try.underlying3 (hval 1 3 v1 rfl rfl) h1
  obtain ⟨a2, len2, cap2, rfl⟩ := okWide_slice Try.underlying22 (hval 2 22 v2 rfl rfl)
  have k2 := h2
  have lt2 : ∀ x ∈ p2, x.block < W.heap.size := by obtain ⟨m, hm⟩ := k2; exact DataW.trod_lt m _ _ _ hm
  obtain ⟨z2, w2⟩ : ∃ zs, IsRow .i64 W a2 len2 cap2 zs := by
    obtain ⟨fuel, hf⟩ := h2
    rcases open_ints Try.underlying22 Try.underlying3 (by kernel_rfl) hf with ⟨hcs, _⟩ | ⟨x, l, c, zs, hcs, _, hl, hm, hz, _, hcell, hwz⟩
    · simp [Value.cells] at hcs
      obtain ⟨rfl, rfl, rfl⟩ := hcs
      exact ⟨[], .inl ⟨rfl, rfl, rfl, rfl⟩⟩
    · simp [Value.cells] at hcs
      obtain ⟨rfl, rfl, rfl⟩ := hcs
      exact ⟨zs, .inr ⟨_, rfl, hl, hm, by simpa using hz, hcell, hwz⟩⟩
  clear hA0 hval0
  refine (walk a0 a1 a2 len2 cap2 z2 W w0 w1 w2).mono fun e W' ⟨he, bel⟩ => ?_
  subst he
  exact ⟨_, rfl, _, _, _, [], _, [], hW', trodAll_mk1 (shut_bool Try.underlying4 _), (trodAll_cons_mk (shut_int Try.underlying3 w0) (trodAll_cons_mk (shut_int Try.underlying3 w1) (trodAll_cons_mk (Below.trod laidOut (by kernel_rfl) (of_decide_eq_true (by kernel_rfl)) k2 bel lt2) trodAll_mk0))), rfl, bel.frame _, fun h => by cases h⟩

theorem over : Rows.stampRunsRow.holds Try.pinned (OpenSpec.ofChange Rows.stampRunsSpec) :=
  OpenClaim.holds_of_wide 3 Try.f3 rfl rfl rfl rfl rfl rfl rfl ⟨rfl, rfl, rfl, rfl, rfl⟩ rfl rfl rfl rfl rfl (by kernel_rfl) Try.func3 (by kernel_rfl)
    (of_decide_eq_true (by kernel_rfl)) (by unfold Func.isWrapper; first | (rw [if_pos (by decide +kernel)]; kernel_rfl) | (rw [if_neg (by decide +kernel)]; exact ⟨rfl, rfl⟩))
    (fun os started H enc _ => lifted os started H enc)

/-- The statement. -/
theorem proved : Rows.StampRunsSaid := over
#print axioms proved
end Go.Proofs.Ytpmpamipcedioaa.stampRuns
