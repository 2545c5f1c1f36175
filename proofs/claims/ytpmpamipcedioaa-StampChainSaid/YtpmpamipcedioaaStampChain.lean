/- StampChain returns true at every input, and its arguments read as they did: no condition. -/
import Derived.Test.YtpmpamipcedioaaRows
import Derived.WalkKit
import Derived.ProofKit
import Derived.OpenShut
import Derived.ShutString
import Derived.ChangeOld
import Derived.Below
import Derived.WalkSpells
import Derived.WalkLawsBesides
import Derived.Handy
import Derived.Outline
import Derived.Test.YtpmpamipcedioaaMem
import Derived.Test.YtpmpamipcedioaaRateW
import Derived.Test.YtpmpamipcedioaaFl
import Derived.Test.YtpmpamipcedioaaFlRun
import Derived.Test.YtpmpamipcedioaaMoveS
import Derived.Test.YtpmpamipcedioaaHand
import Derived.Test.YtpmpamipcedioaaStamp
import Derived.Test.YtpmpamipcedioaaChainP
namespace Go.Proofs.Ytpmpamipcedioaa.stampChain
open Go.ChangeShapes Go.WideShapes Go.ChangeAt Go.RowKit
open Go.ChangeMaps (open_string shut_string)
set_option linter.unusedVariables false

open Fl
def ChRel (B cb len : Nat) (bd : Int) (w : World) (v10 v11 v12 v13 v15 : Value) (wr : World) : Prop :=
  ∃ (k g L : Nat) (ck : Nat → Int) (ref time b f t Y : Int), k ≤ len ∧ L < 3 ∧ v15 = .int .i64 k ∧ v10 = .int .i64 ref ∧ v11 = .int .i64 time ∧ v12 = .int .i64 L ∧ v13 = .pointer (some ⟨g, 0, none⟩) ∧
    Blk wr cb 46 (intA ck 3) ∧ Blk wr g 51 #[.int .i64 b, .int .i64 f, .int .i64 t] ∧ (∀ i, i < 3 → 0 ≤ ck i ∧ ck i ≤ 1200 * (k : Int)) ∧ 0 ≤ ref ∧ ref ≤ 1000 * (k : Int) ∧ Y = (1000 + bd) * ref ∧ Y ≤ 1200000 * (k : Int) ∧ Chain b f t time (ck L) Y ∧ Below B w wr ∧ B ≤ wr.heap.size ∧ B ≤ g
def InRel (cb : Nat) (ck : Nat → Int) (Z : Int) (W : World) (v17 : Value) (wr : World) : Prop :=
  ∃ (c : Nat) (ck' : Nat → Int), c ≤ 3 ∧ v17 = .int .i64 c ∧ Blk wr cb 46 (intA ck' 3) ∧ (∀ i, i < 3 → ck i ≤ ck' i ∧ 1000 * (ck' i - ck i) ≤ Z) ∧ (∀ i, i < 3 → c ≤ i → ck' i = ck i) ∧ W.grownBy wr (some cb)
theorem in_next {ck ck' : Nat → Int} {Z m : Int} {c : Nat} (hc : c < 3) (h1 : ∀ i, i < 3 → ck i ≤ ck' i ∧ 1000 * (ck' i - ck i) ≤ Z) (h2 : ∀ i, i < 3 → c ≤ i → ck' i = ck i) (hm : 0 ≤ m) (hz : 1000 * m ≤ Z) :
    (∀ i, i < 3 → ck i ≤ upd ck' c (ck' c + m) i ∧ 1000 * (upd ck' c (ck' c + m) i - ck i) ≤ Z) ∧ (∀ i, i < 3 → c + 1 ≤ i → upd ck' c (ck' c + m) i = ck i) := by
  constructor
  · intro i hi
    by_cases e : i = c
    · subst e
      rw [upd_same]
      have := h2 i hi (Nat.le_refl _)
      omega
    · rw [upd_other _ _ e]; exact h1 i hi
  · intro i hi hc
    rw [upd_other _ _ (by omega)]; exact h2 i hi (by omega)
set_option maxRecDepth 100000 in
set_option maxHeartbeats 4000000 in
theorem walk (a0 : Option Addr) (len0 cap0 : Nat) (z0 : List Int) (a1 : Option Addr) (len1 cap1 : Nat) (z1 : List Int) (a2 : Option Addr) (len2 cap2 : Nat) (z2 : List Int) (a3 : Int) (w : World)
    (w0 : IsRow .u16 w a0 len0 cap0 z0) (w1 : IsRow .u16 w a1 len1 cap1 z1) (w2 : IsRow .u8 w a2 len2 cap2 z2) (w3 : (Lit.int .u8 a3).wf = true) :
    Calls Try.prog 10 #[.slice a0 len0 cap0, .slice a1 len1 cap1, .slice a2 len2 cap2, .int .u8 a3] w fun e w' => e = .returned (.bool true) ∧ Below w.heap.size w w' := by
  obtain ⟨hl0, hwz0, hc0⟩ := w0.at
  obtain ⟨hl1, hwz1, hc1⟩ := w1.at
  obtain ⟨hl2, hwz2, hc2⟩ := w2.at
  have b3 := bounds_u8 w3
  clear w0 w1 w2 w3
  have Hc0 := Lib.hid hc0
  have Hc1 := Lib.hid hc1
  have Hc2 := Lib.hid hc2
  have Hz0 := Lib.hid hwz0
  have Hz1 := Lib.hid hwz1
  have Hz2 := Lib.hid hwz2
  clear hc0 hc1 hc2 hwz0 hwz1 hwz2
  have hcase : 40 < len0 ∨ (len0 ≤ 40 ∧ len1 < 3) ∨ (len0 ≤ 40 ∧ 3 ≤ len1 ∧ len2 < len0) ∨ (len0 ≤ 40 ∧ 3 ≤ len1 ∧ len0 ≤ len2) := by omega
  rcases hcase with h | ⟨h, h'⟩ | ⟨h, h', h''⟩ | ⟨h, h', h''⟩
  · go_enter Try.func10, Try.ntmps10
    go_wp2_with fail
    refine (awake20_any _).mono ?_
    rintro e w1 ⟨rfl, hg⟩
    go_wp2_with fail
    go_ret
    exact ⟨rfl, below_only (Below.refl _ _) (Nat.le_refl _) hg (by simp)⟩
  · go_enter Try.func10, Try.ntmps10
    go_wp2_with fail
    refine (awake20_any _).mono ?_
    rintro e w1 ⟨rfl, hg⟩
    go_wp2_with fail
    go_ret
    exact ⟨rfl, below_only (Below.refl _ _) (Nat.le_refl _) hg (by simp)⟩
  · go_enter Try.func10, Try.ntmps10
    go_wp2_with fail
    refine (awake20_any _).mono ?_
    rintro e w1 ⟨rfl, hg⟩
    go_wp2_with fail
    go_ret
    exact ⟨rfl, below_only (Below.refl _ _) (Nat.le_refl _) hg (by simp)⟩
  · obtain ⟨bd, hbd⟩ : ∃ bd, a3 % 201 = bd := ⟨_, rfl⟩
    have hbd1 : 0 ≤ bd := by omega
    have hbd2 : bd ≤ 200 := by omega
    have HBd := Lib.hid hbd
    clear hbd
    have Hcb := Lib.hid (Blk.new w 46 #[.int .i64 0, .int .i64 0, .int .i64 0])
    go_enter Try.func10, Try.ntmps10
    go_wp2_with fail
    refine (new_own 0 0 _).mono ?_
    rw [show nearF 0 = 0 by decide]
    rintro e w1 ⟨rfl, hb1, hg1, hs1⟩
    have hs1' : w.heap.size + 1 < w1.heap.size := by simpa using hs1
    have HS : Hid (ChRel w.heap.size w.heap.size len0 bd w (.int .i64 0) (.int .i64 0) (.int .i64 0) (.pointer (some ⟨w.heap.size + 1, 0, none⟩)) (.int .i64 0) w1) :=
      ⟨0, w.heap.size + 1, 0, fun _ => 0, 0, 0, 0, 0, 0, 0, by omega, by omega, rfl, rfl, rfl, rfl, rfl, by rw [← int000]; exact Hcb.out.kept hg1 (by simp), by simpa using hb1, fun i _ => by show (0 : Int) ≤ 0 ∧ (0 : Int) ≤ 1200 * ((0 : Nat) : Int); omega, by omega, by omega, by rw [Int.mul_zero], by omega, by unfold Chain; simp, below_only ((Below.refl w.heap.size w).alloc (Nat.le_refl _) _) (by simp) hg1 (by simp), by omega, by omega⟩
    clear hb1 hg1 hs1
    go_wp2_with fail
    rw [HBd.out]
    go_loopw [10, 11, 12, 13, 15] (fun v10 v11 v12 v13 v15 wr => ChRel w.heap.size w.heap.size len0 bd w v10 v11 v12 v13 v15 wr) (fun _ _ _ _ v15 _ => len0 - (intOf v15).toNat)
    case atStart => exact HS.out
    case round =>
      clear HS
      obtain ⟨k, g, L, ck, ref, time, b, f, t, Y, hk, hL, rfl, rfl, rfl, rfl, rfl, hcb, hst, hck, hf1, hf2, hY, hY2, hch, hbel, hsz, hgB⟩ := hrel
      obtain ⟨wo, rfl⟩ : ∃ wo : World, wo = wr := ⟨_, rfl⟩
      have hne : g ≠ w.heap.size := hst.ne' hcb (by decide)
      have HCb := Lib.hid hcb
      have HSt := Lib.hid hst
      have HCk := Lib.hid hck
      have HY := Lib.hid hY
      have HCh := Lib.hid hch
      have HB := Lib.hid hbel
      clear hcb hst hck hY hch hbel
      by_cases hlt : k < len0
      · obtain ⟨bk0, o0, ha0, hbk0, hce0⟩ := Hc0.out (by omega)
        obtain ⟨bk1, o1, ha1, hbk1, hce1⟩ := Hc1.out (by omega)
        obtain ⟨bk2, o2, ha2, hbk2, hce2⟩ := Hc2.out (by omega)
        subst ha0
        subst ha1
        subst ha2
        have c0 := row_below hce0 HB.out hbk0 k hlt
        have hz0 := bounds_u16 (Hz0.out k hlt)
        have hz2 := bounds_u8 (Hz2.out k (by omega))
        have Hce1 := Lib.hid hce1
        have Hce2 := Lib.hid hce2
        clear hce0 hce1 hce2
        have hi0 : (0 : Int) ≤ (k : Int) := by omega
        have hi1 : (k : Int) < (len0 : Int) := by omega
        have hi2 : (k : Int) < (len2 : Int) := by omega
        obtain ⟨n, hn⟩ : ∃ n, 1 + zat z0 k % 1000 = n := ⟨_, rfl⟩
        have hn1 : 1 ≤ n := by omega
        have hn2 : n ≤ 1000 := by omega
        have HNn := Lib.hid hn
        clear hn
        obtain ⟨hZ1, hZ2⟩ := bd_le hbd1 hbd2 (show 0 ≤ n by omega)
        obtain ⟨Z, hZ⟩ : ∃ Z, (1000 + bd) * n = Z := ⟨_, rfl⟩
        rw [hZ] at hZ1 hZ2
        have HZ := Lib.hid hZ
        clear hZ
        have hcl : clampN n = n.toNat := by unfold clampN; omega
        have HI : Hid (InRel w.heap.size ck Z wo (.int .i64 0) wo) := ⟨0, ck, by omega, rfl, HCb.out, fun i hi => by omega, fun _ _ _ => rfl, only_refl _ _⟩
        clear hcl
        go_wp2_with fail
        rw [HNn.out]
        go_loopw [17] (fun v17 wr => InRel w.heap.size ck Z wo v17 wr) (fun v17 _ => 3 - (intOf v17).toNat)
        case atStart => exact HI.out
        case round =>
          clear HI c0
          obtain ⟨c, ck', hc, rfl, hcb', hin1, hin2, hgr⟩ := hrel
          have HCb' := Lib.hid hcb'
          have HI1 := Lib.hid hin1
          have HI2 := Lib.hid hin2
          have hbi : Below w.heap.size w wr := below_only HB.out hsz hgr (by simp)
          have hszi : w.heap.size ≤ wr.heap.size := by have := hgr.size; omega
          have HGr := Lib.hid hgr
          have HBi := Lib.hid hbi
          clear hcb' hin1 hin2 hgr hbi
          by_cases hc3 : c < 3
          · have cz := row_below Hce1.out HBi.out hbk1 c (by omega)
            have hz1 := bounds_u16 (Hz1.out c (by omega))
            have cc : wr.cell? ⟨w.heap.size, c, none⟩ = some (.int .i64 (ck' c)) := (HCb'.out.cell c).trans (by rw [intA_get, if_pos hc3])
            have fc : wr.frozen? ⟨w.heap.size, c, none⟩ = false := HCb'.out.free _
            have h1 := HCk.out c hc3
            have h2 := HI1.out c hc3
            have hj0 : (0 : Int) ≤ (c : Int) := by omega
            have hj1 : (c : Int) < 3 := by omega
            have hj2 : (c : Int) < (len1 : Int) := by omega
            have hzz : (2 * bd + 1 == 0) = false := by rw [beq_eq_false_iff_ne]; omega
            have em1 := Int.emod_nonneg (zat z1 c) (b := 2 * bd + 1) (by omega)
            have em2 := Int.emod_lt_of_pos (zat z1 c) (b := 2 * bd + 1) (by omega)
            obtain ⟨q, s, hq, hs, hsl⟩ := near_one (zat z1 c % (2 * bd + 1) - bd) (by omega)
            have e1 : ∀ W : World, (binOp .quo 47 (.float .f64 (floatOfInt .f64 (zat z1 c % (2 * bd + 1) - bd))) (.float .f64 4652007308841189376)).run Try.prog W = .ok (.float .f64 q) W := fun W => run_float_arith W .quo 47 .f64 _ _ _ hq
            have e2 : ∀ W : World, (binOp .add 47 (.float .f64 4607182418800017408) (.float .f64 q)).run Try.prog W = .ok (.float .f64 s) W := fun W => run_float_arith W .add 47 .f64 _ _ _ hs
            have hmv := mv_le (x := s) hsl (clampN_le n)
            obtain ⟨m, hm⟩ : ∃ m : Int, (mv s (clampN n) : Int) = m := ⟨_, rfl⟩
            have hm1 : 0 ≤ m ∧ m ≤ 16000 := by omega
            have HMv : Hid (∀ W : World, Calls Try.prog 25 #[.float .f64 s, .int .i64 n] W fun e w' => e = .returned (.int .i64 m) ∧ W = w') := fun W => by rw [← hm]; exact move_any s hsl n W
            have HNx : ∀ x, 0 ≤ x → 1000 * x ≤ Z → Hid (InRel w.heap.size ck Z wo (.int .i64 ((c : Int) + 1)) (wr.setCell ⟨w.heap.size, c, none⟩ (.int .i64 (ck' c + x)))) := fun x hx hxz => by
              obtain ⟨y1, y2⟩ := in_next hc3 HI1.out HI2.out hx hxz
              exact ⟨c + 1, _, by omega, by go_num, by rw [← intA_set]; exact HCb'.out.set c _, y1, y2, only_setCell HGr.out (.inl rfl) _⟩
            have HNY := Lib.hid HNx
            clear hq hs hm hmv HNx
            rcases hu : withinB n m bd with _ | _
            · have HU := Lib.hid hu
              clear hu
              have HNz := HNY.out n (by omega) (by rw [← HZ.out]; exact stay_near hbd1 (by omega))
              go_wp2_with fail
              refine (HMv.out _).mono ?_
              rintro e w4 ⟨rfl, rfl⟩
              go_wp2_with fail
              refine (within_any _ _ _ _).mono ?_
              rw [HU.out]
              rintro e w4 ⟨rfl, rfl⟩
              go_wp2_with fail
              exact ⟨HNz.out, by simp [intOf]; omega⟩
            · have hmz : 1000 * m ≤ Z := by rw [← HZ.out]; exact move_near hu
              have HU := Lib.hid hu
              clear hu
              have HNz := HNY.out m hm1.1 hmz
              go_wp2_with fail
              refine (HMv.out _).mono ?_
              rintro e w4 ⟨rfl, rfl⟩
              go_wp2_with fail
              refine (within_any _ _ _ _).mono ?_
              rw [HU.out]
              rintro e w4 ⟨rfl, rfl⟩
              go_wp2_with fail
              exact ⟨HNz.out, by simp [intOf]; omega⟩
          · have : c = 3 := by omega
            subst this
            have cz := row_below Hce2.out HBi.out hbk2 k (by omega)
            have hckb : ∀ i, i < 3 → 0 ≤ ck' i ∧ ck' i ≤ 1200 * ((k : Int) + 1) := fun i hi => by
              have := HCk.out i hi
              have := HI1.out i hi
              omega
            have HCkb := Lib.hid hckb
            have hcL := HI1.out L hL
            have hcLb := hckb L hL
            have hYZ : (1000 + bd) * (ref + n) = Y + Z := by rw [Int.mul_add, ← HY.out, HZ.out]
            have HYZ := Lib.hid hYZ
            have hp1 : 0 ≤ (1000 + bd) * (ref + n) := Int.mul_nonneg (by omega) (by omega)
            have hp2 : (1000 + bd) * (ref + n) ≤ 1200000 * ((k : Int) + 1) := by rw [hYZ]; omega
            have hchain := chain_move (c' := ck' L) (Y' := Y + Z) HCh.out hcL.1 (by omega) (by omega)
            have hct : 0 ≤ time ∧ time ≤ 1000000 := by unfold Chain at hchain; omega
            have HChn := Lib.hid hchain
            have HSt' : Hid (Blk wr g 51 #[.int .i64 b, .int .i64 f, .int .i64 t]) := HSt.out.kept HGr.out (by intro e; injection e with e; exact hne e)
            clear hckb hYZ hchain
            obtain ⟨z, hz⟩ : ∃ z, zat z2 k = z := ⟨_, rfl⟩
            rw [hz] at cz hz2
            have HZz := Lib.hid hz
            clear hz
            have h3 : z % 3 = 0 ∨ 0 < z % 3 := by omega
            by_cases h4 : z % 4 = 0
            · obtain ⟨l, hl⟩ : ∃ l : Nat, z / 4 % 3 = (l : Int) := ⟨(z / 4 % 3).toNat, by omega⟩
              have hl3 : l < 3 := by omega
              have hl0 : (0 : Int) ≤ (l : Int) := by omega
              have hl1 : (l : Int) < 3 := by omega
              have cl' : wr.cell? ⟨w.heap.size, l, none⟩ = some (.int .i64 (ck' l)) := (HCb'.out.cell l).trans (by rw [intA_get, if_pos hl3])
              have hcl1 := HCkb.out l hl3
              have HCn2 := Lib.hid (chain_new (c' := ck' l) HChn.out hcl1.1 hct.2)
              have HNw : Hid (Calls Try.prog 12 #[.int .i64 time, .int .i64 (ck' l)] wr fun e w' => e = .returned (.pointer (some ⟨wr.heap.size, 0, none⟩)) ∧ Blk w' wr.heap.size 51 #[.int .i64 time, .int .i64 (ck' l), .int .i64 0] ∧ wr.grownBy w' none ∧ wr.heap.size < w'.heap.size) := by
                have := new_own time (ck' l) wr
                rw [near_id hct.1 (by omega), near_id hcl1.1 (by omega)] at this
                exact this
              go_wp2_with fail
              refine HNw.out.mono ?_
              rintro e w5 ⟨rfl, hb5, hg5, hs5⟩
              have HSn := Lib.hid hb5
              have HCb5 := Lib.hid (HCb'.out.kept hg5 (by simp))
              have HB5 := Lib.hid (below_only HBi.out hszi hg5 (by simp))
              have hsz5 : w.heap.size ≤ w5.heap.size := by omega
              have hgw5 : wr.heap.size ≠ w.heap.size := by have := HCb'.out.lt; omega
              have cz5 := row_below Hce2.out HB5.out hbk2 k (by omega)
              rw [show zat z2 k = z from HZz.out] at cz5
              clear hb5 hg5 cz cl'
              rcases h3 with h3 | h3
              · have h3' : (z % 3 == 0) = true := by rw [h3]; rfl
                have h3'' : ¬ 0 < z % 3 := by omega
                have hnw2 : 1000 * time ≤ (1000 + bd) * (ref + n) := by rw [HYZ.out]; have := HCn2.out; unfold Chain at this; omega
                have HN : Hid (ChRel w.heap.size w.heap.size len0 bd w (.int .i64 (ref + n)) (.int .i64 time) (.int .i64 (l : Nat)) (.pointer (some ⟨wr.heap.size, 0, none⟩)) (.int .i64 ((k : Int) + 1)) w5) :=
                  ⟨k + 1, wr.heap.size, l, ck', _, _, _, _, _, Y + Z, by omega, by omega, by go_num, rfl, rfl, rfl, rfl, HCb5.out, HSn.out, fun i hi => by have := HCkb.out i hi; omega, by omega, by omega, HYZ.out.symm, by rw [HYZ.out] at hp2; omega, HCn2.out, HB5.out, hsz5, (by omega)⟩
                go_wp2_with fail
                exact ⟨HN.out, by simp [intOf]; omega⟩
              · have h3' : (z % 3 == 0) = false := by rw [beq_eq_false_iff_ne]; omega
                have cL2 : w5.cell? ⟨w.heap.size, l, none⟩ = some (.int .i64 (ck' l)) := (HCb5.out.cell l).trans (by rw [intA_get, if_pos (by omega)])
                have hat := chain_at HCn2.out (by have := HCkb.out l (by omega); omega)
                obtain ⟨nw, hnw⟩ : ∃ nw, atF time (ck' l) 0 (ck' l) = nw := ⟨_, rfl⟩
                rw [hnw] at hat
                have hnw1 : time ≤ nw := hat.1
                have hnw2 : 1000 * nw ≤ (1000 + bd) * (ref + n) := by rw [HYZ.out]; have := hat.2; unfold Chain at this; omega
                have hbf : (0 ≤ time ∧ time ≤ 2305843009213693952) ∧ (0 ≤ (ck' l) ∧ (ck' l) ≤ 2305843009213693952) := by have := HCn2.out; have := HCkb.out l (by omega); unfold Chain at *; omega
                have HAt := Lib.hid hat
                clear hat
                go_wp2_with fail
                refine (at_own wr.heap.size time (ck' l) 0 _ _ HSn.out hbf.1 hbf.2).mono ?_
                rw [hnw]
                rintro e w6 ⟨rfl, hb6, hg6⟩
                have HN : Hid (ChRel w.heap.size w.heap.size len0 bd w (.int .i64 (ref + n)) (.int .i64 nw) (.int .i64 (l : Nat)) (.pointer (some ⟨wr.heap.size, 0, none⟩)) (.int .i64 ((k : Int) + 1)) w6) :=
                  ⟨k + 1, wr.heap.size, l, ck', _, _, _, _, _, Y + Z, by omega, by omega, by go_num, rfl, rfl, rfl, rfl, HCb5.out.kept hg6 (by intro e; injection e with e; omega), hb6, fun i hi => by have := HCkb.out i hi; omega, by omega, by omega, HYZ.out.symm, by rw [HYZ.out] at hp2; omega, HAt.out.2, below_only HB5.out hsz5 hg6 (by intro g' e; injection e with e; omega), by have := hg6.size; omega, (by omega)⟩
                clear hb6 hg6 hnw
                go_wp2_with fail
                exact ⟨HN.out, by simp [intOf]; omega⟩
            · have h4' : (z % 4 == 0) = false := by rw [beq_eq_false_iff_ne]; exact h4
              rcases h3 with h3 | h3
              · have h3' : (z % 3 == 0) = true := by rw [h3]; rfl
                have h3'' : ¬ 0 < z % 3 := by omega
                have hnw2 : 1000 * time ≤ (1000 + bd) * (ref + n) := by rw [HYZ.out]; have := HChn.out; unfold Chain at this; omega
                have HN : Hid (ChRel w.heap.size w.heap.size len0 bd w (.int .i64 (ref + n)) (.int .i64 time) (.int .i64 (L : Nat)) (.pointer (some ⟨g, 0, none⟩)) (.int .i64 ((k : Int) + 1)) wr) :=
                  ⟨k + 1, g, L, ck', _, _, _, _, _, Y + Z, by omega, by omega, by go_num, rfl, rfl, rfl, rfl, HCb'.out, HSt'.out, fun i hi => by have := HCkb.out i hi; omega, by omega, by omega, HYZ.out.symm, by rw [HYZ.out] at hp2; omega, HChn.out, HBi.out, hszi, hgB⟩
                go_wp2_with fail
                exact ⟨HN.out, by simp [intOf]; omega⟩
              · have h3' : (z % 3 == 0) = false := by rw [beq_eq_false_iff_ne]; omega
                have cL2 : wr.cell? ⟨w.heap.size, L, none⟩ = some (.int .i64 (ck' L)) := (HCb'.out.cell L).trans (by rw [intA_get, if_pos (by omega)])
                have hat := chain_at HChn.out (by have := HCkb.out L (by omega); omega)
                obtain ⟨nw, hnw⟩ : ∃ nw, atF b f t (ck' L) = nw := ⟨_, rfl⟩
                rw [hnw] at hat
                have hnw1 : time ≤ nw := hat.1
                have hnw2 : 1000 * nw ≤ (1000 + bd) * (ref + n) := by rw [HYZ.out]; have := hat.2; unfold Chain at this; omega
                have hbf : (0 ≤ b ∧ b ≤ 2305843009213693952) ∧ (0 ≤ f ∧ f ≤ 2305843009213693952) := by have := HChn.out; have := HCkb.out L (by omega); unfold Chain at *; omega
                have HAt := Lib.hid hat
                clear hat
                go_wp2_with fail
                refine (at_own g b f t _ _ HSt'.out hbf.1 hbf.2).mono ?_
                rw [hnw]
                rintro e w6 ⟨rfl, hb6, hg6⟩
                have HN : Hid (ChRel w.heap.size w.heap.size len0 bd w (.int .i64 (ref + n)) (.int .i64 nw) (.int .i64 (L : Nat)) (.pointer (some ⟨g, 0, none⟩)) (.int .i64 ((k : Int) + 1)) w6) :=
                  ⟨k + 1, g, L, ck', _, _, _, _, _, Y + Z, by omega, by omega, by go_num, rfl, rfl, rfl, rfl, HCb'.out.kept hg6 (by intro e; injection e with e; omega), hb6, fun i hi => by have := HCkb.out i hi; omega, by omega, by omega, HYZ.out.symm, by rw [HYZ.out] at hp2; omega, HAt.out.2, below_only HBi.out hszi hg6 (by intro g' e; injection e with e; omega), by have := hg6.size; omega, hgB⟩
                clear hb6 hg6 hnw
                go_wp2_with fail
                exact ⟨HN.out, by simp [intOf]; omega⟩
      · go_wp2_with fail
        refine (awake20_any _).mono ?_
        rintro e w5 ⟨rfl, hg5⟩
        go_wp2_with fail
        go_ret
        exact ⟨rfl, below_only HB.out hsz hg5 (by simp)⟩

theorem own : ownKnob Try.prog.godebug = none := by kernel_rfl
theorem laidOut : laidOutB Try.prog = true := by kernel_rfl

set_option maxRecDepth 100000 in
theorem lifted (os : Os) (started : os.Started) (H : Type) (enc : TypeId × Value → H) :
    ReturnsInHanded {} Try.checked os 10 .any (Rows.stampChainSpec.pre6 enc Try.prog Try.f10 Rows.stampChainRow.domain false) (Rows.stampChainSpec.post enc Try.prog Try.f10 false true false false) := by
  refine returnsInHanded_of_change (C := Try.checked) own started (by kernel_rfl) Try.func10
    (ChangeSpec.witness6 (enc := enc) (C := Try.checked) false ⟨#[], #[.slice none 0 0, .slice none 0 0, .slice none 0 0, .int .u8 0], []⟩ 8 (by kernel_rfl) (by kernel_rfl) (by kernel_rfl) (by kernel_rfl)) ?_
  intro W base args ds gs before hval0 hW hcnd _
  have hval : ∀ (j : Nat) t v, Try.f10.params[j]? = some t → args[j]? = some v → Value.okWide Try.prog W .any base t v := hval0
  have hW' := hW
  obtain ⟨p, q, hA0, hV, rfl, hfz, hnd⟩ := hW
  have hA : DataW.TrodAll enc Try.prog W 0 (fun _ => true) true Try.f10.params.toList args.toList ds p := hA0
  rw [Try.params10] at hA hval
  obtain ⟨v0, vs0, d0, ds0, p0, q0, hargs, rfl, rfl, h0, r0⟩ := trodAll_cons hA
  obtain ⟨v1, vs1, d1, ds1, p1, q1, rfl, rfl, rfl, h1, r1⟩ := trodAll_cons r0
  obtain ⟨v2, vs2, d2, ds2, p2, q2, rfl, rfl, rfl, h2, r2⟩ := trodAll_cons r1
  obtain ⟨v3, vs3, d3, ds3, p3, q3, rfl, rfl, rfl, h3, r3⟩ := trodAll_cons r2
  obtain ⟨rfl, rfl, rfl⟩ := trodAll_nil r3
  obtain rfl : args = #[v0, v1, v2, v3] := by cases args; simp_all
  obtain ⟨rfl, rfl⟩ := trodVars_none hV
  obtain ⟨a0, len0, cap0, rfl⟩ := okWide_slice Try.underlying34 (hval 0 34 v0 rfl rfl)
  have k0 := h0
  have lt0 : ∀ x ∈ p0, x.block < W.heap.size := by obtain ⟨m, hm⟩ := k0; exact DataW.trod_lt m _ _ _ hm
  obtain ⟨z0, w0⟩ : ∃ zs, IsRow .u16 W a0 len0 cap0 zs := by
    obtain ⟨fuel, hf⟩ := h0
    rcases open_ints Try.underlying34 Try.underlying35 (by kernel_rfl) hf with ⟨hcs, _⟩ | ⟨x, l, c, zs, hcs, _, hl, hm, hz, _, hcell, hwz⟩
    · simp [Value.cells] at hcs
      obtain ⟨rfl, rfl, rfl⟩ := hcs
      exact ⟨[], .inl ⟨rfl, rfl, rfl, rfl⟩⟩
    · simp [Value.cells] at hcs
      obtain ⟨rfl, rfl, rfl⟩ := hcs
      exact ⟨zs, .inr ⟨_, rfl, hl, hm, by simpa using hz, hcell, hwz⟩⟩
  obtain ⟨a1, len1, cap1, rfl⟩ := okWide_slice Try.underlying34 (hval 1 34 v1 rfl rfl)
  have k1 := h1
  have lt1 : ∀ x ∈ p1, x.block < W.heap.size := by obtain ⟨m, hm⟩ := k1; exact DataW.trod_lt m _ _ _ hm
  obtain ⟨z1, w1⟩ : ∃ zs, IsRow .u16 W a1 len1 cap1 zs := by
    obtain ⟨fuel, hf⟩ := h1
    rcases open_ints Try.underlying34 Try.underlying35 (by kernel_rfl) hf with ⟨hcs, _⟩ | ⟨x, l, c, zs, hcs, _, hl, hm, hz, _, hcell, hwz⟩
    · simp [Value.cells] at hcs
      obtain ⟨rfl, rfl, rfl⟩ := hcs
      exact ⟨[], .inl ⟨rfl, rfl, rfl, rfl⟩⟩
    · simp [Value.cells] at hcs
      obtain ⟨rfl, rfl, rfl⟩ := hcs
      exact ⟨zs, .inr ⟨_, rfl, hl, hm, by simpa using hz, hcell, hwz⟩⟩
  obtain ⟨a2, len2, cap2, rfl⟩ := okWide_slice Try.underlying45 (hval 2 45 v2 rfl rfl)
  have k2 := h2
  have lt2 : ∀ x ∈ p2, x.block < W.heap.size := by obtain ⟨m, hm⟩ := k2; exact DataW.trod_lt m _ _ _ hm
  obtain ⟨z2, w2⟩ : ∃ zs, IsRow .u8 W a2 len2 cap2 zs := by
    obtain ⟨fuel, hf⟩ := h2
    rcases open_ints Try.underlying45 Try.underlying5 (by kernel_rfl) hf with ⟨hcs, _⟩ | ⟨x, l, c, zs, hcs, _, hl, hm, hz, _, hcell, hwz⟩
    · simp [Value.cells] at hcs
      obtain ⟨rfl, rfl, rfl⟩ := hcs
      exact ⟨[], .inl ⟨rfl, rfl, rfl, rfl⟩⟩
    · simp [Value.cells] at hcs
      obtain ⟨rfl, rfl, rfl⟩ := hcs
      exact ⟨zs, .inr ⟨_, rfl, hl, hm, by simpa using hz, hcell, hwz⟩⟩
  obtain ⟨a3, rfl, rfl, rfl, w3⟩ := open_int Try.underlying5 (hval 3 5 v3 rfl rfl) h3
  clear hA0 hval0
  refine (walk a0 len0 cap0 z0 a1 len1 cap1 z1 a2 len2 cap2 z2 a3 W w0 w1 w2 w3).mono fun e W' ⟨he, bel⟩ => ?_
  subst he
  exact ⟨_, rfl, _, _, _, [], _, [], hW', trodAll_mk1 (shut_bool Try.underlying4 _), (trodAll_cons_mk (Below.trod laidOut (by kernel_rfl) (of_decide_eq_true (by kernel_rfl)) k0 bel lt0) (trodAll_cons_mk (Below.trod laidOut (by kernel_rfl) (of_decide_eq_true (by kernel_rfl)) k1 bel lt1) (trodAll_cons_mk (Below.trod laidOut (by kernel_rfl) (of_decide_eq_true (by kernel_rfl)) k2 bel lt2) (trodAll_cons_mk (shut_int Try.underlying5 w3) trodAll_mk0)))), rfl, bel.frame _, fun h => by cases h⟩

theorem over : Rows.stampChainRow.holds Try.pinned (OpenSpec.ofChange Rows.stampChainSpec) :=
  OpenClaim.holds_of_wide 10 Try.f10 rfl rfl rfl rfl rfl rfl rfl ⟨rfl, rfl, rfl, rfl, rfl⟩ rfl rfl rfl rfl rfl (by kernel_rfl) Try.func10 (by kernel_rfl)
    (of_decide_eq_true (by kernel_rfl)) (by unfold Func.isWrapper; first | (rw [if_pos (by decide +kernel)]; kernel_rfl) | (rw [if_neg (by decide +kernel)]; exact ⟨rfl, rfl⟩))
    (fun os started H enc _ => lifted os started H enc)

/-- The statement. -/
theorem proved : Rows.StampChainSaid := over
#print axioms proved
end Go.Proofs.Ytpmpamipcedioaa.stampChain
