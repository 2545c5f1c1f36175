/- Append of one element of one cell to a slice of the call's own: what it leaves, and where the new slice lies; a row of floats. -/
import Derived.Test.YtpjefioopbnolaaRows
import Derived.WalkKit
import Derived.WalkSpells
import Derived.WalkLawsBesides
import Derived.Handy
import Derived.Maps.AppendAt
import Derived.OwnWalk
import Derived.Test.YtpjefioopbnolaaMem
import Derived.Test.YtpjefioopbnolaaFl
import Derived.Test.YtpjefioopbnolaaFlRun
namespace Go.Proofs.Ytpjefioopbnolaa
open Go.RowKit
set_option linter.unusedVariables false

open Fl
theorem wpList_append1 {P : Program} {W : World} {ops : Array Oper} {rest : List Oper} {o : Oper} {a : Act} {Q : Exit → Act → World → Prop} (hgd : o.guard = none) (s x : Operand) (t : TypeId)
    (ho : o.op = .call { callee := .builtin .append, args := #[s, x], argTypes := #[t, t] })
    (B : Nat) (e : TypeId) (z : Value) (bytes : Nat) (ht : P.underlying t = some (.slice e)) (hinfo : (P.info? e).map (fun i => (i.zero, i.size, i.bytes)) = some (some z, 1, bytes)) (hzs : z.cells.size = 1)
    (v : Value) (n : Nat) (xs : List Value) (hs : a.eval s = v) (wr : World) (hown : wr.ownsRow B e 1 v n xs)
    (u : Value) (hW : W = wr.alloc (.cells #[u] e)) (hu : u.oneCell' = true) (hx : a.eval x = .slice (some ⟨wr.heap.size, 0, none⟩) 1 1)
    (hn : n + 1 ≤ 1048576) (hb : bytes ≤ 1024) (hbase : B ≤ wr.heap.size)
    (h : ∀ v' w', w'.ownsRow B e 1 v' (n + 1) (xs ++ [u]) → wr.grownBy w' v.ownBlock → (v'.ownBlock = v.ownBlock ∨ v'.ownBlock = some (wr.heap.size + 1)) → wpList P ops Q rest (a.put o.dst v') w') :
    wpList P ops Q (o :: rest) a W := by
  subst hW
  obtain ⟨i0, hi, hz0, hz1, hz2⟩ := info_parts hinfo
  have hbb : (n + 1) * bytes ≤ 140737488355328 := by
    have := Nat.mul_le_mul hn hb
    omega
  refine wpList_append_own_at (w := wr.alloc (.cells #[u] e)) hgd s x t ho B e i0 z 1 bytes ht hi hz0 hz1 hz2 hzs (by omega) v n xs hs (hown.alloc _) ⟨wr.heap.size, 0, none⟩ 1 1 [u] hx rfl (Go.cell_one_new wr u e) (fun y hy => by simp at hy; subst hy; exact hu) (by unfold maxLen; omega) hbb (by simp; omega) ?_
  intro v' w' h1 h2 _ h4
  refine h v' w' h1 (only_trans (World.grownBy_alloc wr _ _) h2) ?_
  simpa using h4

/-- The floats of a row. -/
def fsL (b : Nat → Nat) (n : Nat) : List Value := (List.range n).map fun i => Value.float .f64 (b i)
theorem fsL_succ (b : Nat → Nat) (n : Nat) : fsL b n ++ [.float .f64 (b n)] = fsL b (n + 1) := by unfold fsL; rw [List.range_succ]; simp
theorem fsL_get {b : Nat → Nat} {n i : Nat} (h : i < n) : (fsL b n)[i]? = some (.float .f64 (b i)) := by unfold fsL; simp [h]
theorem own_fs {w : World} {B : Nat} {e : TypeId} {v : Value} {n : Nat} {b : Nat → Nat} (h : w.ownsRow B e 1 v n (fsL b n)) (hb : ∀ i, i < n → b i < 18446744073709551616) (hn : n ≤ 1048576) :
    ∃ a cap, v = .slice a n cap ∧ IsFs w a n b := by
  rcases h.2 with ⟨rfl, rfl⟩ | ⟨g, cap, cur, rfl, _, hg, hnc, hcm, hcs, htake⟩
  · exact ⟨none, 0, rfl, by omega, fun i hi => by omega, fun hi => by omega⟩
  · refine ⟨_, cap, rfl, by omega, hb, fun hp => ⟨g, 0, rfl, lt_of_block hg, fun i hi => ?_⟩⟩
    have := h.cells (g := g) rfl i _ (fsL_get hi)
    rwa [addr_add] at this
/-- Two rows lie apart. -/
def Apart (p q : Option Nat) : Prop := p = none ∨ q = none ∨ p ≠ q
theorem Apart.symm {p q : Option Nat} (h : Apart p q) : Apart q p := by
  rcases h with h | h | h
  · exact .inr (.inl h)
  · exact .inl h
  · exact .inr (.inr fun e => h e.symm)
theorem Apart.ne {p q : Option Nat} (h : Apart p q) : q = none ∨ q ≠ p := by
  rcases h with h | h | h
  · cases q with
    | none => exact .inl rfl
    | some k => right; rw [h]; simp
  · exact .inl h
  · exact .inr fun e => h e.symm
/-- One of them has moved on, into new memory. -/
theorem Apart.step {p q p' : Option Nat} {n : Nat} (h : Apart p q) (hq : ∀ k, q = some k → k < n) (hp' : p' = p ∨ p' = some (n + 1)) : Apart p' q := by
  rcases hp' with rfl | rfl
  · exact h
  · cases q with
    | none => exact .inr (.inl rfl)
    | some k => right; right; intro e; injection e with e; have := hq k rfl; omega
theorem own_lt {w : World} {B : Nat} {e : TypeId} {s : Nat} {v : Value} {n : Nat} {xs : List Value} (h : w.ownsRow B e s v n xs) : ∀ k, v.ownBlock = some k → k < w.heap.size := fun k hk => (World.ownsRow.lt h k hk).2
theorem own_ge {w : World} {B : Nat} {e : TypeId} {s : Nat} {v : Value} {n : Nat} {xs : List Value} (h : w.ownsRow B e s v n xs) : ∀ k, v.ownBlock = some k → B ≤ k := fun k hk => (World.ownsRow.lt h k hk).1
end Go.Proofs.Ytpjefioopbnolaa
