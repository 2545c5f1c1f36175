/- What leaves all old blocks but two as they were. Plain. -/
import Derived.Test.YtmlcjmgclfgbiaaRows
import Derived.WalkKit
import Derived.WalkSpells
import Derived.WalkLawsBesides
import Derived.Handy
import Derived.Test.YtmlcjmgclfgbiaaMem
namespace Go.Proofs.Ytmlcjmgclfgbiaa
open Go.RowKit
set_option linter.unusedVariables false

structure Only2 (w w' : World) (p q : Nat) : Prop where
  os : w'.os = w.os
  tape : w'.tape = w.tape
  output : w'.output = w.output
  size : w.heap.size ≤ w'.heap.size
  block : ∀ i, i < w.heap.size → i ≠ p → i ≠ q → w'.heap[i]? = w.heap[i]?
theorem Only2.refl (w : World) (p q : Nat) : Only2 w w p q := ⟨rfl, rfl, rfl, Nat.le_refl _, fun _ _ _ _ => rfl⟩
theorem Only2.trans {a b c : World} {p q : Nat} (h : Only2 a b p q) (k : Only2 b c p q) : Only2 a c p q :=
  ⟨k.os.trans h.os, k.tape.trans h.tape, k.output.trans h.output, Nat.le_trans h.size k.size, fun i hi h1 h2 => (k.block i (Nat.lt_of_lt_of_le hi h.size) h1 h2).trans (h.block i hi h1 h2)⟩
theorem Only2.one {a c : World} {p q g : Nat} (h : a.grownBy c (some g)) (hg : g = p ∨ g = q ∨ a.heap.size ≤ g) : Only2 a c p q :=
  ⟨h.os, h.tape, h.output, h.size, fun i hi h1 h2 => h.block i hi (by intro e; injection e with e; omega)⟩
theorem Only2.new {a c : World} {p q : Nat} (h : a.grownBy c none) : Only2 a c p q :=
  ⟨h.os, h.tape, h.output, h.size, fun i hi _ _ => h.block i hi (by simp)⟩
theorem Only2.set {w : World} {p q : Nat} {a : Addr} (u : Value) (h : a.block = p ∨ a.block = q ∨ w.heap.size ≤ a.block) : Only2 w (w.setCell a u) p q :=
  Only2.one (g := a.block) (only_setCell (only_refl w _) (.inl rfl) u) h
theorem Only2.drew (w : World) (p q : Nat) : Only2 w w.drew p q := ⟨rfl, rfl, rfl, Nat.le_refl _, fun _ _ _ _ => rfl⟩
theorem Only2.drewN (w : World) (n p q : Nat) : Only2 w (w.drewN n) p q := ⟨rfl, rfl, rfl, Nat.le_refl _, fun _ _ _ _ => rfl⟩
theorem Blk.kept2 {w w' : World} {g p q : Nat} {t : TypeId} {cs : Array Value} (h : Blk w g t cs) (hg : Only2 w w' p q) (h1 : g ≠ p) (h2 : g ≠ q) : Blk w' g t cs := by
  unfold Blk at *; rw [hg.block g (lt_of_block h) h1 h2]; exact h
theorem Only2.below {w w' : World} {p q B : Nat} {a : World} (h : Below B a w) (hB : B ≤ w.heap.size) (k : Only2 w w' p q) (h1 : B ≤ p) (h2 : B ≤ q) : Below B a w' :=
  h.trans ⟨k.os, k.tape, k.output, k.size, fun i hi => k.block i (by omega) (by omega) (by omega)⟩
theorem Only2.cell {w w' : World} {p q b o : Nat} {v : Value} (k : Only2 w w' p q) (h1 : b ≠ p) (h2 : b ≠ q) (hc : w.cell? ⟨b, o, none⟩ = some v) : w'.cell? ⟨b, o, none⟩ = some v := by
  have hlt : b < w.heap.size := by
    rcases Nat.lt_or_ge b w.heap.size with h | h
    · exact h
    · simp [World.cell?, Array.getElem?_eq_none h] at hc
  have := k.block b hlt h1 h2
  simp only [World.cell?, this] at hc ⊢
  exact hc
theorem Only2.weak {w w' : World} {p q : Nat} (h : w.grownBy w' (some p)) : Only2 w w' p q := Only2.one h (.inl rfl)
theorem Only2.step {w b c : World} {p q x : Nat} (h : Only2 w b p q) (k : b.grownBy c (some x)) (hx : x = p ∨ x = q ∨ w.heap.size ≤ x) : Only2 w c p q :=
  ⟨k.os.trans h.os, k.tape.trans h.tape, k.output.trans h.output, Nat.le_trans h.size k.size, fun i hi h1 h2 => (k.block i (Nat.lt_of_lt_of_le hi h.size) (by intro e; injection e with e; omega)).trans (h.block i hi h1 h2)⟩
theorem Only2.grow {w b c : World} {p q : Nat} (h : Only2 w b p q) (k : b.grownBy c none) : Only2 w c p q := h.trans (Only2.new k)
theorem Only2.set' {w b : World} {p q : Nat} (h : Only2 w b p q) {a : Addr} (u : Value) (hx : a.block = p ∨ a.block = q ∨ w.heap.size ≤ a.block) : Only2 w (b.setCell a u) p q :=
  h.step (only_setCell (only_refl _ _) (.inl rfl) u) hx
theorem Blk.far {w : World} {g : Nat} {t : TypeId} {cs : Array Value} (h : Blk w g t cs) (b o : Nat) (u : Value) (hne : g ≠ b) : Blk (w.setCell ⟨b, o, none⟩ u) g t cs :=
  h.kept (only_setCell (g := b) (only_refl _ _) (.inl rfl) u) (by intro e; injection e with e; exact hne e)
theorem none_set {w wr : World} (h : w.grownBy wr none) (b o : Nat) (u : Value) (hb : w.heap.size ≤ b) : w.grownBy (wr.setCell ⟨b, o, none⟩ u) none :=
  only_none (g := b) (only_trans (only_but h _) (only_setCell (only_refl _ _) (.inl rfl) u)) hb
theorem Blk.ne {w : World} {g h : Nat} {t u : TypeId} {cs ds : Array Value} (h1 : Blk w g t cs) (h2 : Blk w h u ds) (hne : t ≠ u) : g ≠ h := by
  rintro rfl
  unfold Blk at h1 h2
  rw [h1] at h2
  injection h2 with h2
  injection h2 with _ h2
  exact hne h2
end Go.Proofs.Ytmlcjmgclfgbiaa
