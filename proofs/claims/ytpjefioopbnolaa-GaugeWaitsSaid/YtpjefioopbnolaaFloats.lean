/- What floats makes. -/
import Derived.Test.YtpjefioopbnolaaRows
import Derived.WalkKit
import Derived.WalkSpells
import Derived.WalkLawsBesides
import Derived.Handy
import Derived.Test.YtpjefioopbnolaaMem
import Derived.Test.YtpjefioopbnolaaFl
import Derived.Test.YtpjefioopbnolaaFlRun
import Derived.Test.YtpjefioopbnolaaApp
import Derived.Test.YtpjefioopbnolaaGauV
import Derived.Test.YtpjefioopbnolaaMaxG
import Derived.Test.YtpjefioopbnolaaBits2
import Derived.Test.YtpjefioopbnolaaInf
import Derived.Test.YtpjefioopbnolaaGauS
import Derived.Test.YtpjefioopbnolaaGrade
import Derived.Test.YtpjefioopbnolaaMost
import Derived.Test.YtpjefioopbnolaaFair
import Derived.Test.YtpjefioopbnolaaAw30
namespace Go.Proofs.Ytpjefioopbnolaa
open Go.RowKit
set_option linter.unusedVariables false

open Fl
def FloatsRel (b : Nat → Nat) (len : Nat) (w : World) (v i : Value) (wr : World) : Prop :=
  ∃ k : Nat, k ≤ len ∧ i = .int .i64 k ∧ wr.ownsRow w.heap.size 28 1 v k (fsL b k) ∧ w.grownBy wr none
set_option maxRecDepth 100000 in
set_option maxHeartbeats 1000000 in
theorem floats_any (a : Option Addr) (len cap : Nat) (zs : List Int) (b : Nat → Nat) (w : World) (h : IsRow .u64 w a len cap zs) (hb : ∀ i, (zat zs i).toNat = b i) (hlen : len ≤ 1000) :
    Calls Try.prog 9 #[.slice a len cap] w fun e w' => ∃ a' cap', e = .returned (.slice a' len cap') ∧ IsFs w' a' len b ∧ w.grownBy w' none := by
  obtain ⟨hl, hwz, hc⟩ := h.at
  have hb2 : ∀ i, i < len → b i < 18446744073709551616 := fun i hi => by have := bounds_u64 (hwz i hi); rw [← hb]; omega
  have Hc := Lib.hid hc
  have Hb := Lib.hid hb
  have Hb2 := Lib.hid hb2
  have HS : Hid (FloatsRel b len w (.slice none 0 0) (.int .i64 0) w) := ⟨0, by omega, rfl, World.ownsRow_nil _ _ _ _, only_refl _ _⟩
  clear hc hwz hb hb2 h
  go_enter Try.func9, Try.ntmps9
  go_wp2_with fail
  go_loopw [3, 4] (fun v i wr => FloatsRel b len w v i wr) (fun _ i _ => len - (intOf i).toNat)
  case atStart => exact HS.out
  case round =>
    clear HS
    obtain ⟨k, hk, rfl, ho, hg⟩ := hrel
    have HO := Lib.hid ho
    have HG := Lib.hid hg
    have hsz : w.heap.size ≤ wr.heap.size := hg.size
    clear ho hg
    by_cases hlt : k < len
    · obtain ⟨g, off, rfl, hglt, hcell⟩ := Hc.out (by omega)
      have hck := keep_new HG.out (hcell k hlt)
      have hi0 : (0 : Int) ≤ (k : Int) := by omega
      have hi1 : (k : Int) < (len : Int) := by omega
      clear hcell
      go_wp2_with fail
      refine (float_any _ _).mono ?_
      rintro e w1 ⟨rfl, rfl⟩
      rw [Hb.out]
      go_wp2_with (at_builtin; refine wpList_append1 rfl (.tmp 11) (.tmp 17) 25 rfl w.heap.size 28 (.float .f64 0) 8 Try.underlying25 infoF rfl _ k _ rfl wr HO.out _ rfl rfl rfl (by omega) (by omega) hsz ?_; intro v' w1 hw1 hg1 hat; rw [fsL_succ] at hw1; have HN : Hid (FloatsRel b len w v' (.int .i64 ((k : Int) + 1)) w1) := ⟨k + 1, by omega, by go_num, hw1, grow_own HG.out hg1 (own_ge HO.out)⟩; clear hw1 hg1 hat hck)
      exact ⟨HN.out, by simp [intOf]; omega⟩
    · have : k = len := by omega
      subst this
      obtain ⟨a', c', rfl, h3⟩ := own_fs HO.out Hb2.out (by omega)
      have H3 := Lib.hid h3
      clear h3 HO
      go_wp2_with fail
      go_ret
      exact ⟨_, _, rfl, H3.out, HG.out⟩
theorem al_fits' {o : Option Nat} {a b : Nat} (h1 : Fits o a) (h2 : Fits o b) : al a b = true := al_fits h1 h2
end Go.Proofs.Ytpjefioopbnolaa
