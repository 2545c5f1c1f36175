/- The contracts of gauge.Fair and of the document's Fair. -/
import Derived.Test.YtpjefioopbnolaaRows
import Derived.WalkKit
import Derived.WalkSpells
import Derived.WalkLawsBesides
import Derived.Handy
import Derived.Deep.QuietTactic
import Derived.BigQuiet
import Derived.RegionTactic
import Derived.Outline
import Derived.Test.YtpjefioopbnolaaMem
import Derived.Test.YtpjefioopbnolaaFl
import Derived.Test.YtpjefioopbnolaaFlRun
import Derived.Test.YtpjefioopbnolaaApp
import Derived.Test.YtpjefioopbnolaaGauV
import Derived.Test.YtpjefioopbnolaaGauS
namespace Go.Proofs.Ytpjefioopbnolaa
open Go.RowKit
set_option linter.unusedVariables false

open Fl
theorem run_op {P : Program} (W : World) (op : BinOp) (t : TypeId) (x y : Nat) (hop : op = .add ∨ op = .sub ∨ op = .mul ∨ op = .quo) :
    ∃ q n, (binOp op t (.float .f64 x) (.float .f64 y)).run P W = .ok (.float .f64 q) (W.drewN n) ∧ Fits (floatBits op .f64 x y) q := by
  rcases hq : floatBits op .f64 x y with _ | q
  · exact ⟨nanOf W x y, 1, run_nan W op t x y hop hq, ⟨(nanOf_is W x y).2, (nanOf_is W x y).1⟩⟩
  · exact ⟨q, 0, run_float_arith W op t .f64 _ _ _ hq, ⟨bits_lt hq, rfl⟩⟩
/-- A square of a number is a word from nought on. -/
theorem sq_num {x : Nat} (h : isN x = false) : ∃ q, floatBits .mul .f64 x x = some q ∧ q ≤ inf := by
  have hr : rg x ≤ inf := by unfold isN at h; simpa using h
  rcases Nat.lt_or_eq_of_le hr with h1 | h1
  · refine ⟨_, mul_num h1 h1, ?_⟩
    rw [Bool.xor_self, word_false]; exact RU_le_inf _ _
  · refine ⟨inf, ?_, Nat.le_refl _⟩
    show Ieee.double.mul _ _ = _
    unfold Ieee.Format.mul
    rw [read_inf h1]
    cases sg x <;> rfl
theorem add_zero {q : Nat} (h : q ≤ inf) : floatBits .add .f64 0 q = some q := by
  show Ieee.double.add _ _ = _
  have r0 : rg 0 < inf := by decide
  have rq := small_rg h
  have sq := small_sg h
  rcases Nat.lt_or_eq_of_le h with h1 | h1
  · rw [add_num r0 (by rw [rq]; exact h1)]
    have e0 : sv 0 = 0 := by decide
    have e1 : sv q = (val q : Nat) := by unfold sv; rw [sq, rq]; rfl
    have g0 : sg 0 = false := by decide
    rw [e0, e1, Int.zero_add, g0, Bool.false_and, Int.natAbs_natCast]
    have ve := val_exact h 0
    rw [Nat.pow_zero, Nat.mul_one] at ve
    rw [ve]
    have : (if ((val q : Nat) : Int) = 0 then false else decide (((val q : Nat) : Int) < 0)) = false := by split <;> simp
    rw [this]; rfl
  · subst h1
    unfold Ieee.Format.add
    rw [read_num r0, read_inf (x := inf) (by decide)]
    rfl
def isz (o : Option Nat) : Bool := match o with | some q => feq q 0 | none => false
theorem isz_fits {o : Option Nat} {r : Nat} (h : Fits o r) : feq r 0 = isz o := by
  cases o with
  | none => have := h.2; unfold feq isz; rw [show isN r = true from h.2]; rfl
  | some q => rw [show r = q from h.2]; rfl
def fairV (v : Nat → Option Nat) (len : Nat) : Option Nat :=
  if isz (QV v len) then some 4607182418800017408 else opV .quo (opV .mul (SV v len) (SV v len)) (opV .mul (some (floatOfInt .f64 (len : Int))) (QV v len))
theorem sq_cases (b : Nat → Nat) (i : Nat) : (sqV (fun j => av (b j)) i = none) ∨ ∃ q, sqV (fun j => av (b j)) i = some q ∧ q ≤ inf := by
  rcases h : isN (b i) with _ | _
  · right
    obtain ⟨q, hq, hl⟩ := sq_num h
    have e : av (b i) = some (b i) := by unfold av; rw [h]; rfl
    refine ⟨q, ?_, hl⟩
    show opV .mul (av (b i)) (av (b i)) = some q
    rw [e]; exact hq
  · left
    have e : av (b i) = none := by unfold av; rw [h]; rfl
    show opV .mul (av (b i)) (av (b i)) = none
    rw [e]; rfl
theorem av_fits {o : Option Nat} {x : Nat} (h : Fits o x) (k : o = none ∨ ∃ q, o = some q ∧ q ≤ inf) : av x = o := by
  rcases k with rfl | ⟨q, rfl, hq⟩
  · unfold av; rw [show isN x = true from h.2]; rfl
  · have : x = q := h.2
    subst this
    unfold av; rw [small_isN hq]; rfl
theorem SV_congr {v u : Nat → Option Nat} {k : Nat} (h : ∀ i, i < k → v i = u i) : SV v k = SV u k := by
  induction k with
  | zero => rfl
  | succ k ih =>
    by_cases h0 : k = 0
    · subst h0; exact h 0 (by omega)
    · rw [SV_succ v (by omega), SV_succ u (by omega), ih fun i hi => h i (by omega), h k (by omega)]
theorem QV_SV (b : Nat → Nat) (k : Nat) (hk : 0 < k) : QV (fun j => av (b j)) k = SV (sqV fun j => av (b j)) k := by
  induction k with
  | zero => omega
  | succ k ih =>
    by_cases h0 : k = 0
    · subst h0
      show opV .add (some 0) (sqV (fun j => av (b j)) 0) = sqV (fun j => av (b j)) 0
      rcases sq_cases b 0 with h | ⟨q, h, hq⟩
      · rw [h]; rfl
      · rw [h]; exact add_zero hq
    · rw [SV_succ _ (by omega), ← ih (by omega)]; rfl
theorem fits_int (n : Int) : Fits (some (floatOfInt .f64 n)) (floatOfInt .f64 n) :=
  ⟨by rw [ofInt_eq]; unfold word; have := RU_le_inf (n.natAbs * U) 0; have hi : inf = 9218868437227405312 := rfl; split <;> omega, rfl⟩
theorem drewN_addF (w : World) (n m : Nat) : (w.drewN n).drewN m = w.drewN (n + m) := by unfold World.drewN; simp [Nat.add_assoc]
def FairRel (b : Nat → Nat) (len : Nat) (W : World) (f i : Value) (wr : World) : Prop :=
  ∃ (k r n : Nat), k ≤ len ∧ i = .int .i64 k ∧ f = .float .f64 r ∧ Fits (QV (fun j => av (b j)) k) r ∧ wr = W.drewN n
def FairPost (b : Nat → Nat) (len : Nat) (w : World) (e : Ending) (w' : World) : Prop := ∃ r n, e = .returned (.float .f64 r) ∧ w' = w.drewN n ∧ Fits (fairV (fun j => av (b j)) len) r
set_option maxHeartbeats 2000000 in
theorem fair_any (a : Option Addr) (len cap : Nat) (b : Nat → Nat) (w : World) (h : IsFs w a len b) :
    Calls Try.prog 15 #[.slice a len cap] w (FairPost b len w) := by
  have H := Lib.hid h
  obtain ⟨hl, hb, hc⟩ := h
  have Hc := Lib.hid hc
  have Hb := Lib.hid hb
  clear hc hb
  have HS : Hid (FairRel b len w (.float .f64 0) (.int .i64 0) w) := ⟨0, 0, 0, by omega, rfl, rfl, ⟨by omega, rfl⟩, rfl⟩
  go_enter Try.func15, Try.ntmps15
  go_wp2_with fail
  go_loopw [3, 12] (fun f i wr => FairRel b len w f i wr) (fun _ i _ => len - (intOf i).toNat)
  case atStart => exact HS.out
  case round =>
    clear HS
    obtain ⟨k, r, n, hk, rfl, rfl, hf, hW⟩ := hrel
    have HF := Lib.hid hf
    have HW := Lib.hid hW
    clear hf hW
    by_cases hlt : k < len
    · obtain ⟨g, off, rfl, hglt, hcell⟩ := Hc.out (by omega)
      have hck : wr.cell? ⟨g, off + k, none⟩ = some (.float .f64 (b k)) := by rw [HW.out]; exact hcell k hlt
      have hbk := Hb.out k hlt
      have hi0 : (0 : Int) ≤ (k : Int) := by omega
      have hi1 : (k : Int) < (len : Int) := by omega
      clear hcell
      obtain ⟨q, n1, e1, hf1⟩ := run_op (P := Try.prog) wr .mul 28 (b k) (b k) (by simp)
      rw [op_fits (op := .mul) (by simp) (fits_av hbk) (fits_av hbk)] at hf1
      obtain ⟨s, n2, e2, hf2⟩ := run_op (P := Try.prog) (wr.drewN n1) .add 28 r q (by simp)
      rw [op_fits (op := .add) (by simp) HF.out hf1] at hf2
      have HN : Hid (FairRel b len w (.float .f64 s) (.int .i64 ((k : Int) + 1)) (wr.drewN (n1 + n2))) := ⟨k + 1, s, n + (n1 + n2), by omega, by go_num, rfl, hf2, by rw [HW.out, drewN_addF]⟩
      clear hf1 hf2
      go_wp2_with fail
      exact ⟨HN.out, by simp [intOf]; omega⟩
    · have : k = len := by omega
      subst this
      have a1 := (cmp_eq r 0).trans (isz_fits HF.out)
      rcases hz : isz (QV (fun j => av (b j)) k) with _ | _
      · rw [hz] at a1
        have hs := sum_any a k cap b wr (by rw [HW.out]; exact ⟨H.out.1, H.out.2.1, H.out.2.2⟩)
        have HSm := Lib.hid hs
        have HZ := Lib.hid hz
        clear hs hz
        go_wp2_with fail
        refine HSm.out.mono ?_
        rintro e w1 ⟨t, m, rfl, rfl, hft⟩
        obtain ⟨o1, n1, e1, hf1⟩ := run_op (P := Try.prog) (wr.drewN m) .mul 28 t t (by simp)
        rw [op_fits (op := .mul) (by simp) hft hft] at hf1
        obtain ⟨o2, n2, e2, hf2⟩ := run_op (P := Try.prog) (wr.drewN (m + n1)) .mul 28 (floatOfInt .f64 (k : Int)) r (by simp)
        rw [op_fits (op := .mul) (by simp) (fits_int _) HF.out] at hf2
        obtain ⟨o3, n3, e3, hf3⟩ := run_op (P := Try.prog) (wr.drewN (m + n1 + n2)) .quo 28 o1 o2 (by simp)
        rw [op_fits (op := .quo) (by simp) hf1 hf2] at hf3
        have HF3 : Hid (Fits (fairV (fun j => av (b j)) k) o3) := by
          show Fits _ _
          unfold fairV; rw [HZ.out]; exact hf3
        clear hf1 hf2 hf3 hft
        go_wp2_with fail
        go_ret
        exact ⟨_, n + (m + n1 + n2 + n3), rfl, by rw [HW.out, drewN_addF], HF3.out⟩
      · rw [hz] at a1
        have HF3 : Hid (Fits (fairV (fun j => av (b j)) k) 4607182418800017408) := by
          show Fits _ _
          unfold fairV; rw [hz]; exact ⟨by omega, rfl⟩
        clear hz
        go_wp2_with fail
        go_ret
        exact ⟨_, n, rfl, HW.out, HF3.out⟩
theorem infoF : (Try.prog.info? 28).map (fun i => (i.zero, i.size, i.bytes)) = some (some (.float .f64 0), 1, 8) := by kernel_rfl
theorem grow_own {a b c : World} {row : Option Nat} (h : a.grownBy b none) (k : b.grownBy c row) (hr : ∀ g, row = some g → a.heap.size ≤ g) : a.grownBy c none :=
  ⟨k.os.trans h.os, k.tape.trans h.tape, k.output.trans h.output, Nat.le_trans h.size k.size, fun i hi _ => (k.block i (Nat.lt_of_lt_of_le hi h.size) (by intro e; have := hr i e.symm; omega)).trans (h.block i hi (by simp))⟩
theorem fs_drew {w : World} {a : Option Addr} {len : Nat} {b : Nat → Nat} (h : IsFs w a len b) (n : Nat) : IsFs (w.drewN n) a len b := h.kept (only_drewN (only_refl _ _) n)
def RFairRel (b : Nat → Nat) (len : Nat) (w : World) (v i : Value) (wr : World) : Prop :=
  ∃ (k : Nat) (b' : Nat → Nat), k ≤ len ∧ i = .int .i64 k ∧ wr.ownsRow w.heap.size 28 1 v k (fsL b' k) ∧ (∀ i, i < k → Fits (sqV (fun j => av (b j)) i) (b' i)) ∧ w.grownBy wr none
theorem fsL_congr {b c : Nat → Nat} {n : Nat} (h : ∀ i, i < n → b i = c i) : fsL b n = fsL c n := by
  unfold fsL
  apply List.map_congr_left
  intro i hi
  rw [h i (List.mem_range.1 hi)]
def upd1 (b : Nat → Nat) (k q : Nat) : Nat → Nat := fun i => if i = k then q else b i
theorem fsL_upd (b : Nat → Nat) (k q : Nat) : fsL b k ++ [.float .f64 q] = fsL (upd1 b k q) (k + 1) := by
  rw [← fsL_succ, fsL_congr (b := upd1 b k q) (c := b) (fun i hi => by unfold upd1; rw [if_neg (by omega)])]
  congr 2
  unfold upd1; rw [if_pos rfl]
def RFairPost (b : Nat → Nat) (len : Nat) (w : World) (e : Ending) (w' : World) : Prop := ∃ r, e = .returned (.float .f64 r) ∧ w.grownBy w' none ∧ Fits (fairV (fun j => av (b j)) len) r
set_option maxRecDepth 100000 in
set_option maxHeartbeats 2000000 in
theorem rfair_any (a : Option Addr) (len cap : Nat) (b : Nat → Nat) (w : World) (h : IsFs w a len b) (hlen : len ≤ 1000) :
    Calls Try.prog 16 #[.slice a len cap] w (RFairPost b len w) := by
  by_cases h0 : len = 0
  · subst h0
    have HF : Hid (Fits (fairV (fun j => av (b j)) 0) 4607182418800017408) := ⟨by omega, rfl⟩
    clear h
    go_enter Try.func16, Try.ntmps16
    go_wp2_with fail
    go_ret
    exact ⟨_, rfl, only_refl _ _, HF.out⟩
  · have hl1 : ((len : Int) == 0) = false := by rw [beq_eq_false_iff_ne]; omega
    have H := Lib.hid h
    have HS : Hid (RFairRel b len w (.slice none 0 0) (.int .i64 0) w) := ⟨0, fun _ => 0, by omega, rfl, World.ownsRow_nil _ _ _ _, fun i hi => by omega, only_refl _ _⟩
    have hlp : 0 < len := by omega
    clear h h0
    go_enter Try.func16, Try.ntmps16
    go_wp2_with fail
    go_loopw [3, 4] (fun v i wr => RFairRel b len w v i wr) (fun _ i _ => len - (intOf i).toNat)
    case atStart => exact HS.out
    case round =>
      clear HS
      obtain ⟨k, b', hk, rfl, ho, hf, hg⟩ := hrel
      have HO := Lib.hid ho
      have HF := Lib.hid hf
      have HG := Lib.hid hg
      have hsz : w.heap.size ≤ wr.heap.size := hg.size
      clear ho hf hg
      by_cases hlt : k < len
      · obtain ⟨g, off, rfl, hglt, hcell⟩ := (H.out.kept HG.out).2.2 (by omega)
        have hck := hcell k hlt
        have hbk := H.out.2.1 k hlt
        have hi0 : (0 : Int) ≤ (k : Int) := by omega
        have hi1 : (k : Int) < (len : Int) := by omega
        have hop : floatBits .mul .f64 (b k) (b k) = sqV (fun j => av (b j)) k := op_fits (op := .mul) (by simp) (fits_av hbk) (fits_av hbk)
        have HOp := Lib.hid hop
        clear hcell hop
        have HNx : ∀ (q n : Nat) (v' : Value) (w1 : World), Fits (sqV (fun j => av (b j)) k) q → w1.ownsRow w.heap.size 28 1 v' (k + 1) (fsL b' k ++ [.float .f64 q]) → w.grownBy w1 none → Hid (RFairRel b len w v' (.int .i64 ((k : Int) + 1)) w1) := fun q n v' w1 hq hw hg1 => by
          refine ⟨k + 1, upd1 b' k q, by omega, by go_num, by rw [← fsL_upd]; exact hw, fun i hi => ?_, hg1⟩
          unfold upd1
          by_cases e : i = k
          · subst e; rw [if_pos rfl]; exact hq
          · rw [if_neg e]; exact HF.out i (by omega)
        have HNy := Lib.hid HNx
        clear HNx
        generalize b k = x at *
        rcases hq : floatBits .mul .f64 x x with _ | q
        · have e1 : ∀ W : World, (binOp .mul 28 (.float .f64 x) (.float .f64 x)).run Try.prog W = .ok (.float .f64 (nanOf W x x)) W.drew := fun W => run_nan W .mul 28 _ _ (by simp) hq
          have HQ : ∀ W, Hid (Fits (sqV (fun j => av (b j)) k) (nanOf W x x)) := fun W => fits_nan W hq HOp.out
          clear hq
          go_wp2_with fail
          go_region
          go_wp2_with (at_builtin; refine wpList_append1 rfl (.tmp 27) (.tmp 29) 25 rfl w.heap.size 28 (.float .f64 0) 8 Try.underlying25 infoF rfl _ k _ rfl wr.drew.drew HO.out _ rfl rfl rfl (by omega) (by omega) hsz ?_; intro v' w1 hw1 hg1 hat; have HN := HNy.out _ 0 v' w1 (HQ wr.drew).out hw1 (grow_own (only_drew (only_drew HG.out)) hg1 (own_ge HO.out)); clear hw1 hg1 hat)
          exact ⟨HN.out, by simp [intOf]; omega⟩
        · have e1 : ∀ W : World, (binOp .mul 28 (.float .f64 x) (.float .f64 x)).run Try.prog W = .ok (.float .f64 q) W := fun W => run_float_arith W .mul 28 .f64 _ _ _ hq
          have HQ : Hid (Fits (sqV (fun j => av (b j)) k) q) := fits_op (W := w) _ hq HOp.out
          clear hq
          go_wp2_with fail
          go_quiet (fail)
          go_wp2_with (at_builtin; refine wpList_append1 rfl (.tmp 27) (.tmp 29) 25 rfl w.heap.size 28 (.float .f64 0) 8 Try.underlying25 infoF rfl _ k _ rfl (wr.drewN nq) HO.out _ rfl rfl rfl (by omega) (by omega) hsz ?_; intro v' w1 hw1 hg1 hat; have HN := HNy.out q 0 v' w1 HQ.out hw1 (grow_own (only_drewN HG.out nq) hg1 (own_ge HO.out)); clear hw1 hg1 hat)
          exact ⟨HN.out, by simp [intOf]; omega⟩
      · have : k = len := by omega
        subst this
        obtain ⟨aq, cq, rfl, hq⟩ := own_fs HO.out (fun i hi => (HF.out i hi).1) (by omega)
        have hQ : SV (fun j => av (b' j)) k = QV (fun j => av (b j)) k := by
          rw [QV_SV b k hlp]
          exact SV_congr fun i hi => av_fits (HF.out i hi) (sq_cases b i)
        have HQ := Lib.hid hQ
        have HR := Lib.hid hq
        have HX := Lib.hid (H.out.kept HG.out)
        clear hq hQ HO
        go_wp2_with fail
        refine (rsum_any _ k _ b' _ HR.out hlp).mono ?_
        rw [HQ.out]
        rintro e w1 ⟨r1, m1, rfl, rfl, hf1⟩
        obtain ⟨o1, n1, e1, hg1⟩ := run_op (P := Try.prog) (wr.drewN m1) .mul 28 (floatOfInt .f64 (k : Int)) r1 (by simp)
        rw [op_fits (op := .mul) (by simp) (fits_int _) hf1] at hg1
        have HG1 := Lib.hid hg1
        clear hg1 hf1
        go_wp2_with fail
        refine (rsum_any _ k _ b' _ (fs_drew HR.out _) hlp).mono ?_
        rw [HQ.out]
        rintro e w1 ⟨r2, m2, rfl, rfl, hf2⟩
        have a1 := (cmp_eq r2 0).trans (isz_fits hf2)
        clear hf2
        rcases hz : isz (QV (fun j => av (b j)) k) with _ | _
        · rw [hz] at a1
          have HZ := Lib.hid hz
          clear hz
          go_wp2_with fail
          refine (rsum_any _ k _ b _ (fs_drew HX.out _) hlp).mono ?_
          rintro e w1 ⟨t, m3, rfl, rfl, hft⟩
          obtain ⟨o2, n2, e2, hg2⟩ := run_op (P := Try.prog) (wr.drewN (m1 + n1 + m2 + m3)) .mul 28 t t (by simp)
          rw [op_fits (op := .mul) (by simp) hft hft] at hg2
          obtain ⟨o3, n3, e3, hg3⟩ := run_op (P := Try.prog) (wr.drewN (m1 + n1 + m2 + m3 + n2)) .quo 28 o2 o1 (by simp)
          rw [op_fits (op := .quo) (by simp) hg2 HG1.out] at hg3
          have HF3 : Hid (Fits (fairV (fun j => av (b j)) k) o3) := by
            show Fits _ _
            unfold fairV; rw [HZ.out]; exact hg3
          clear hg2 hg3 hft e1 a1
          go_wp2_with fail
          go_ret
          exact ⟨_, rfl, only_drewN HG.out _, HF3.out⟩
        · rw [hz] at a1
          have HF3 : Hid (Fits (fairV (fun j => av (b j)) k) 4607182418800017408) := by
            show Fits _ _
            unfold fairV; rw [hz]; exact ⟨by omega, rfl⟩
          clear hz
          go_wp2_with fail
          go_ret
          exact ⟨_, rfl, only_drewN HG.out _, HF3.out⟩
end Go.Proofs.Ytpjefioopbnolaa
