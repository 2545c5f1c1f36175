/- Small lemmas on memory: a block of which the whole is known, and what a call that writes one block of its own leaves alone. Plain Lean over the model's words. -/
import Derived.Test.YtpjefioopbnolaaRows
import Derived.WalkKit
import Derived.WalkSpells
import Derived.WalkLawsBesides
import Derived.Handy
import Derived.Lib.Hide
namespace Go.Proofs.Ytpjefioopbnolaa
open Go.RowKit
set_option linter.unusedVariables false

/-- Block g holds just these cells. -/
def Blk (w : World) (g : Nat) (t : TypeId) (cs : Array Value) : Prop := w.heap[g]? = some (.cells cs t (0, 0))

theorem Blk.lt {w : World} {g : Nat} {t : TypeId} {cs : Array Value} (h : Blk w g t cs) : g < w.heap.size := lt_of_block h
theorem Blk.cell {w : World} {g : Nat} {t : TypeId} {cs : Array Value} (h : Blk w g t cs) (i : Nat) : w.cell? ⟨g, i, none⟩ = cs[i]? := by
  unfold Blk at h; simp [World.cell?, h]
theorem Blk.free {w : World} {g : Nat} {t : TypeId} {cs : Array Value} (h : Blk w g t cs) (i : Nat) : w.frozen? ⟨g, i, none⟩ = false := by
  unfold Blk at h; simp [World.frozen?, h]
theorem Blk.set {w : World} {g : Nat} {t : TypeId} {cs : Array Value} (h : Blk w g t cs) (i : Nat) (v : Value) : Blk (w.setCell ⟨g, i, none⟩ v) g t (cs.setIfInBounds i v) := by
  have hlt := h.lt
  have h' : w.heap[g] = .cells cs t (0, 0) := by unfold Blk at h; simpa [Array.getElem?_eq_getElem hlt] using h
  unfold Blk
  show (w.heap.modify g _)[g]? = _
  rw [Array.getElem?_eq_getElem (by simpa using hlt), Array.getElem_modify_self, h']
  rfl
theorem Blk.new (w : World) (t : TypeId) (cs : Array Value) : Blk (w.alloc (.cells cs t (0, 0))) w.heap.size t cs := by
  unfold Blk
  show (w.heap.push _)[w.heap.size]? = _
  simp
theorem Blk.drewN {w : World} {g : Nat} {t : TypeId} {cs : Array Value} (h : Blk w g t cs) (n : Nat) : Blk (w.drewN n) g t cs := h
theorem Blk.drew {w : World} {g : Nat} {t : TypeId} {cs : Array Value} (h : Blk w g t cs) : Blk w.drew g t cs := h
theorem Blk.kept {w w' : World} {g : Nat} {t : TypeId} {cs : Array Value} {row : Option Nat} (h : Blk w g t cs) (hg : w.grownBy w' row) (hne : some g ≠ row) : Blk w' g t cs := by
  unfold Blk at *; rw [hg.block g (lt_of_block h) hne]; exact h
theorem Blk.below {w w' : World} {g B : Nat} {t : TypeId} {cs : Array Value} (h : Blk w g t cs) (hb : Below B w w') (hlt : g < B) : Blk w' g t cs := by
  unfold Blk at *; rw [hb.block g hlt]; exact h
theorem Blk.alloc {w : World} {g : Nat} {t : TypeId} {cs : Array Value} (h : Blk w g t cs) (o : Obj) : Blk (w.alloc o) g t cs :=
  h.kept (World.grownBy_alloc w o none) (by simp)

theorem only_refl (w : World) (row : Option Nat) : w.grownBy w row := ⟨rfl, rfl, rfl, Nat.le_refl _, fun _ _ _ => rfl⟩
theorem only_drewN {a w : World} {row : Option Nat} (h : a.grownBy w row) (n : Nat) : a.grownBy (w.drewN n) row := ⟨h.os, h.tape, h.output, h.size, h.block⟩
theorem only_drew {a w : World} {row : Option Nat} (h : a.grownBy w row) : a.grownBy w.drew row := ⟨h.os, h.tape, h.output, h.size, h.block⟩
theorem only_alloc {a w : World} {row : Option Nat} (h : a.grownBy w row) (o : Obj) : a.grownBy (w.alloc o) row :=
  ⟨h.os, h.tape, h.output, Nat.le_trans h.size (by simp), fun i hi hne => (Below.heap_alloc w o i (Nat.lt_of_lt_of_le hi h.size)).trans (h.block i hi hne)⟩
theorem only_setCell {a w : World} {g : Nat} (h : a.grownBy w (some g)) {p : Addr} (hp : p.block = g ∨ a.heap.size ≤ p.block) (u : Value) : a.grownBy (w.setCell p u) (some g) :=
  ⟨h.os, h.tape, h.output, by simpa [World.setCell] using h.size, fun i hi hne => (Below.heap_setCell w p u i (by
    rintro rfl
    rcases hp with hp | hp
    · exact hne (by rw [hp])
    · omega)).trans (h.block i hi hne)⟩
theorem only_trans {a b c : World} {row : Option Nat} (h : a.grownBy b row) (k : b.grownBy c row) : a.grownBy c row :=
  ⟨k.os.trans h.os, k.tape.trans h.tape, k.output.trans h.output, Nat.le_trans h.size k.size, fun i hi hne => (k.block i (Nat.lt_of_lt_of_le hi h.size) hne).trans (h.block i hi hne)⟩
theorem only_but {a c : World} (h : a.grownBy c none) (row : Option Nat) : a.grownBy c row := ⟨h.os, h.tape, h.output, h.size, fun i hi _ => h.block i hi (by simp)⟩
theorem only_none {a c : World} {g : Nat} (h : a.grownBy c (some g)) (hg : a.heap.size ≤ g) : a.grownBy c none := ⟨h.os, h.tape, h.output, h.size, fun i hi _ => h.block i hi (by intro e; injection e with e; omega)⟩
theorem only_below {a w : World} {row : Option Nat} (h : Below a.heap.size a w) : a.grownBy w row := ⟨h.os, h.tape, h.output, h.size, fun i hi _ => h.block i hi⟩
/-- What came in before block B reads as it did, where one block from B on was written. -/
theorem below_only {B : Nat} {a b c : World} {row : Option Nat} (h : Below B a b) (hB : B ≤ b.heap.size) (k : b.grownBy c row) (hr : ∀ g, row = some g → B ≤ g) : Below B a c := h.grown k hB hr
theorem below_drewN {B : Nat} {a w : World} (h : Below B a w) (n : Nat) : Below B a (w.drewN n) := ⟨h.os, h.tape, h.output, h.size, h.block⟩

theorem keep_far {w w' : World} {g b o : Nat} {v : Value} (hg : w.grownBy w' (some g)) (hne : b ≠ g) (hc : w.cell? ⟨b, o, none⟩ = some v) : w'.cell? ⟨b, o, none⟩ = some v :=
  hg.cell hc (by intro e; injection e with e; exact hne e)
theorem keep_new {w w' : World} {b o : Nat} {v : Value} (hg : w.grownBy w' none) (hc : w.cell? ⟨b, o, none⟩ = some v) : w'.cell? ⟨b, o, none⟩ = some v :=
  hg.cell hc (by simp)
theorem Calls.same {P : Program} {f : FuncId} {args : Array Value} {w : World} {v : Value}
    (h : Calls P f args w fun e w' => e = .returned v ∧ w = w') : Calls P f args w fun e w'' => e = .returned v ∧ w'' = w :=
  h.mono fun _ _ ⟨he, hm⟩ => ⟨he, hm.symm⟩
theorem quiet_left {P : Program} {f : FuncId} {args : Array Value} {w : World} {n : Nat} {v : Value}
    (h : Calls P f args (w.drewN n) fun e w' => e = .returned v ∧ w.drewN n = w') : Calls P f args (w.drewN n) fun e w'' => e = .returned v ∧ ∃ m, w'' = w.drewN m :=
  h.mono fun _ _ ⟨he, hm⟩ => ⟨he, n, hm.symm⟩
theorem ret_int {k : IntKind} {a b : Int} (h : a = b) : Ending.returned (.int k a) = .returned (.int k b) := by rw [h]
theorem ret_bool {a b : Bool} (h : a = b) : Ending.returned (.bool a) = .returned (.bool b) := by rw [h]

/-- What the walk is told of a slice of integers that came in: it is nil; or it leads to a row of cap cells, the numbers zs (the first len are its elements), each fitting its kind. -/
def IsRow (k : IntKind) (w : World) (a : Option Addr) (len cap : Nat) (zs : List Int) : Prop :=
  (a = none ∧ len = 0 ∧ cap = 0 ∧ zs = []) ∨
  ∃ x, a = some x ∧ len ≤ cap ∧ cap ≤ maxLen ∧ zs.length = cap ∧ (∀ i, i < zs.length → w.cell? (x.add i) = some (.int k (zs.getD i 0))) ∧ ∀ n ∈ zs, (Lit.int k n).wf = true

/-- The i-th number. -/
def zat (zs : List Int) (i : Nat) : Int := zs.getD i 0
/-- The same for the walk: where there is an element, an address, and what each cell holds. -/
theorem IsRow.at {k : IntKind} {w : World} {a : Option Addr} {len cap : Nat} {zs : List Int} (h : IsRow k w a len cap zs) :
    len ≤ 9223372036854775807 ∧ (∀ i, i < len → (Lit.int k (zat zs i)).wf = true) ∧ (0 < len → ∃ b off, a = some ⟨b, off, none⟩ ∧ b < w.heap.size ∧ ∀ i, i < len → w.cell? ⟨b, off + i, none⟩ = some (.int k (zat zs i))) := by
  rcases h with ⟨rfl, rfl, rfl, rfl⟩ | ⟨x, rfl, hl, hm, hz, hcell, hwz⟩
  · exact ⟨by omega, fun i hi => by omega, fun hi => by omega⟩
  · unfold maxLen at hm
    refine ⟨by omega, fun i hi => ?_, fun hi => ?_⟩
    · have hi' : i < zs.length := by omega
      unfold zat; rw [List.getD_eq_getElem?_getD, List.getElem?_eq_getElem hi']
      exact hwz _ (List.getElem_mem hi')
    · obtain ⟨b, off, spot⟩ := x
      have hc := hcell 0 (by omega)
      have hspot : spot = none := by simpa [Addr.add] using World.cell?_spot hc
      subst hspot
      refine ⟨b, off, rfl, ?_, fun i hi => ?_⟩
      rotate_left
      · have h2 := hcell i (by omega)
        by_cases hi0 : i = 0
        · subst hi0; simpa [Addr.add, zat] using h2
        · simpa [Addr.add, hi0, zat] using h2
      rcases Nat.lt_or_ge b w.heap.size with h' | h'
      · exact h'
      · simp [World.cell?, Addr.add, Array.getElem?_eq_none h'] at hc
/-- The facts on a row's cells hold on while nothing below B is written. -/
theorem row_below {k : IntKind} {w w' : World} {b off len : Nat} {zs : List Int} {B : Nat} (h : ∀ i, i < len → w.cell? ⟨b, off + i, none⟩ = some (.int k (zat zs i))) (hb : Below B w w') (hlt : b < B) :
    ∀ i, i < len → w'.cell? ⟨b, off + i, none⟩ = some (.int k (zat zs i)) := fun i hi => by rw [hb.cell (p := ⟨b, off + i, none⟩) hlt]; exact h i hi

/-- A slice of bools that came in. -/
def IsBools (w : World) (a : Option Addr) (len cap : Nat) (f : Nat → Bool) : Prop :=
  len ≤ 9223372036854775807 ∧ (0 < len → ∃ b off, a = some ⟨b, off, none⟩ ∧ b < w.heap.size ∧ ∀ i, i < len → w.cell? ⟨b, off + i, none⟩ = some (.bool (f i)))
/-- A slice of structs that came in: field j of element i holds V i j. -/
def IsRecs (w : World) (a : Option Addr) (len cap s : Nat) (V : Nat → Nat → Value) : Prop :=
  len ≤ 9223372036854775807 ∧ (0 < len → ∃ b off, a = some ⟨b, off, none⟩ ∧ b < w.heap.size ∧ ∀ i, i < len → ∀ j, j < s → w.cell? ⟨b, off + (i * s + j), none⟩ = some (V i j))
theorem addr_add (b off n : Nat) : (⟨b, off, none⟩ : Addr).add n = ⟨b, off + n, none⟩ := by
  by_cases h : n = 0
  · subst h; simp [Addr.add]
  · simp [Addr.add, h]
end Go.Proofs.Ytpjefioopbnolaa
