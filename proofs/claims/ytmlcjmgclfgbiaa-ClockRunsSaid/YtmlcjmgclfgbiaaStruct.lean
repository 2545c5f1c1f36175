/- How a struct of eleven int fields that came in by value is opened: it is an aggregate of eleven numbers, each fitting its kind. -/
import Derived.Test.YtmlcjmgclfgbiaaRows
import Derived.WalkKit
import Derived.WalkSpells
import Derived.WalkLawsBesides
import Derived.Handy
import Derived.ProofKit
import Derived.OpenShut
import Derived.Deep.Slices
import Derived.Deep.Fields
import Derived.ChangeSame
import Derived.Test.YtmlcjmgclfgbiaaMem
namespace Go.Proofs.Ytmlcjmgclfgbiaa
open Go.RowKit
set_option linter.unusedVariables false

open Go.ChangeShapes Go.WideShapes Go.ChangeAt Go.Deep
section
variable {H : Type} {enc : TypeId × Value → H} {P : Program} {w : World} {base : Nat} {spare : Nat → Bool} {held : Bool}
theorem int_field {fs : Array Field} {ti : TypeId} {cs : Array Value} {xs : List (DataW H × List MemPlace)} {n : Nat} (hone : oneCellFields P fs = true)
    (hg : ∀ (i : Nat) (f : Field), fs[i]? = some f → DataW.trod enc P w base spare held n f.type ((cs.toList.drop f.offset).take (P.cellsOf f.type)) = xs[i]?) (hx : xs.length = fs.size) (hti : P.underlying ti = some (.int .i64))
    (i : Nat) (f : Field) (hf : fs[i]? = some f) (hft : f.type = ti) : ∃ x, cs[i]? = some (.int .i64 x) ∧ (Lit.int .i64 x).wf = true := by
  obtain ⟨ho, hk⟩ := hone_of hone i f hf
  have h1 := hg i f hf
  rw [ho, hk, hft] at h1
  have hi : i < xs.length := by rw [hx]; exact (Array.getElem?_eq_some_iff.1 hf).1
  rw [List.getElem?_eq_getElem hi] at h1
  obtain ⟨x, e, _, wx⟩ := DataW.trod_int hti h1
  refine ⟨x, ?_, wx⟩
  have hlt : i < cs.toList.length := by
    rcases Nat.lt_or_ge i cs.toList.length with h | h
    · exact h
    · rw [List.drop_eq_nil_of_le h] at e; simp at e
  rw [List.drop_eq_getElem_cons hlt] at e
  simp at e
  rw [Array.getElem?_eq_getElem (by simpa using hlt)]
  simpa using e
theorem open_ints11 {r : Reach} {b0 : Nat} {t ti : TypeId} {fs : Array Field} {v : Value} {d : DataW H} {p : List MemPlace} (hs : P.underlying t = some (.struct fs)) (hone : oneCellFields P fs = true) (hC : P.cellsOf t = 11) (hn : fs.size = 11)
    (hft : (fs.toList.all fun f => f.type == ti) = true) (hti : P.underlying ti = some (.int .i64))
    (hv : Value.okWide P w r b0 t v) (h : DataW.Trod enc P w base spare held t v d p) :
    ∃ (x0 x1 x2 x3 x4 x5 x6 x7 x8 x9 x10 : Int), v = .agg #[.int .i64 x0, .int .i64 x1, .int .i64 x2, .int .i64 x3, .int .i64 x4, .int .i64 x5, .int .i64 x6, .int .i64 x7, .int .i64 x8, .int .i64 x9, .int .i64 x10] ∧ (Lit.int .i64 x0).wf = true ∧ (Lit.int .i64 x1).wf = true ∧ (Lit.int .i64 x2).wf = true ∧ (Lit.int .i64 x3).wf = true ∧ (Lit.int .i64 x4).wf = true ∧ (Lit.int .i64 x5).wf = true ∧ (Lit.int .i64 x6).wf = true ∧ (Lit.int .i64 x7).wf = true ∧ (Lit.int .i64 x8).wf = true ∧ (Lit.int .i64 x9).wf = true ∧ (Lit.int .i64 x10).wf = true := by
  obtain ⟨cs, rfl, hsz⟩ := okWide_struct hs hv
  obtain ⟨fuel, hf⟩ := h
  obtain ⟨xs, n, _, hx, _, hlen, hg⟩ := DataW.trod_struct hs hf
  have hg' : ∀ (i : Nat) (f : Field), fs[i]? = some f → DataW.trod enc P w base spare held n f.type ((cs.toList.drop f.offset).take (P.cellsOf f.type)) = xs[i]? := by simpa [Value.cells] using hg
  have F : ∀ i, i < 11 → ∃ x, cs[i]? = some (.int .i64 x) ∧ (Lit.int .i64 x).wf = true := fun i hi => by
    have hi' : i < fs.size := by omega
    have he : fs[i]? = some fs[i] := Array.getElem?_eq_getElem hi'
    exact int_field hone hg' hlen hti i _ he (by have := List.all_eq_true.1 hft fs[i] (by simp); simpa using this)
  obtain ⟨x0, e0, w0⟩ := F 0 (by omega)
  obtain ⟨x1, e1, w1⟩ := F 1 (by omega)
  obtain ⟨x2, e2, w2⟩ := F 2 (by omega)
  obtain ⟨x3, e3, w3⟩ := F 3 (by omega)
  obtain ⟨x4, e4, w4⟩ := F 4 (by omega)
  obtain ⟨x5, e5, w5⟩ := F 5 (by omega)
  obtain ⟨x6, e6, w6⟩ := F 6 (by omega)
  obtain ⟨x7, e7, w7⟩ := F 7 (by omega)
  obtain ⟨x8, e8, w8⟩ := F 8 (by omega)
  obtain ⟨x9, e9, w9⟩ := F 9 (by omega)
  obtain ⟨x10, e10, w10⟩ := F 10 (by omega)
  refine ⟨x0, x1, x2, x3, x4, x5, x6, x7, x8, x9, x10, ?_, w0, w1, w2, w3, w4, w5, w6, w7, w8, w9, w10⟩
  congr 1
  apply Array.ext
  · simp [hsz, hC]
  · intro i h1 h2
    have hi : i < 11 := by simpa [hsz, hC] using h1
    rw [← Option.some_inj, ← Array.getElem?_eq_getElem h1]
    match i, hi with
    | 0, _ => exact e0
    | 1, _ => exact e1
    | 2, _ => exact e2
    | 3, _ => exact e3
    | 4, _ => exact e4
    | 5, _ => exact e5
    | 6, _ => exact e6
    | 7, _ => exact e7
    | 8, _ => exact e8
    | 9, _ => exact e9
    | 10, _ => exact e10
theorem spot_none {x : Addr} {v : Value} (h : w.cell? x = some v) : ∃ b off, x = ⟨b, off, none⟩ ∧ b < w.heap.size := by
  obtain ⟨b, off, spot⟩ := x
  have hspot : spot = none := by simpa using World.cell?_spot h
  subst hspot
  refine ⟨b, off, rfl, ?_⟩
  rcases Nat.lt_or_ge b w.heap.size with h' | h'
  · exact h'
  · simp [World.cell?, Array.getElem?_eq_none h'] at h
theorem spot_add {x : Addr} {n : Nat} {v : Value} (h0 : n = 0) (h : w.cell? (x.add n) = some v) : ∃ b off, x = ⟨b, off, none⟩ ∧ b < w.heap.size := by
  subst h0
  exact spot_none (x := x) (by simpa [Addr.add] using h)
theorem bools_open {t e : TypeId} {a : Option Addr} {len cap : Nat} {d : DataW H} {p : List MemPlace} (ht : P.underlying t = some (.slice e)) (he : P.underlying e = some .bool) (hc : P.cellsOf e = 1)
    (h : DataW.Trod enc P w base spare held t (.slice a len cap) d p) : ∃ f, IsBools w a len cap f := by
  obtain ⟨fuel, hf⟩ := h
  rcases open_slice1 ht hc hf with ⟨hcs, _⟩ | ⟨x, l, c, m, n, V, D, Pl, hcs, _, hl, hm, hmm, _, hx⟩
  · simp [Value.cells] at hcs
    obtain ⟨rfl, rfl, rfl⟩ := hcs
    exact ⟨fun _ => false, by omega, fun h => by omega⟩
  · simp [Value.cells] at hcs
    obtain ⟨rfl, rfl, rfl⟩ := hcs
    have hle : len ≤ m := by rw [hmm]; split <;> omega
    have hb : ∀ i, i < len → ∃ b, V i = .bool b := fun i hi => by
      obtain ⟨_, h2⟩ := hx i (by omega)
      obtain ⟨b, e1, _⟩ := DataW.trod_bool he h2
      exact ⟨b, by simpa using e1⟩
    refine ⟨fun i => match V i with | .bool b => b | _ => false, by unfold maxLen at hm; omega, fun h0 => ?_⟩
    obtain ⟨bk, off, rfl, hlt⟩ := spot_add rfl (hx 0 (by omega)).1
    refine ⟨bk, off, rfl, hlt, fun i hi => ?_⟩
    obtain ⟨b, hbv⟩ := hb i hi
    rw [← addr_add, (hx i (by omega)).1]
    simp only [hbv]
theorem recs_open {t e : TypeId} {fs : Array Field} {a : Option Addr} {len cap : Nat} {d : DataW H} {p : List MemPlace} (ht : P.underlying t = some (.slice e)) (he : P.underlying e = some (.struct fs)) (hone : oneCellFields P fs = true) (hC : P.cellsOf e = fs.size) (hpos : 0 < fs.size)
    (h : DataW.Trod enc P w base spare held t (.slice a len cap) d p) :
    ∃ V : Nat → Nat → Value, IsRecs w a len cap fs.size V ∧ ∀ i, i < len → ∀ j, j < fs.size → ∀ f, fs[j]? = some f → (P.underlying f.type = some .bool → ∃ b, V i j = .bool b) ∧ ∀ k, P.underlying f.type = some (.int k) → ∃ x, V i j = .int k x ∧ (Lit.int k x).wf = true := by
  obtain ⟨fuel, hf⟩ := h
  rcases open_slice ht hf with ⟨hcs, _⟩ | ⟨x, l, c, m, n, D, Pl, hcs, _, hl, hm, hmm, _, hx⟩
  · simp [Value.cells] at hcs
    obtain ⟨rfl, rfl, rfl⟩ := hcs
    exact ⟨fun _ _ => .nilIface, ⟨by omega, fun h => by omega⟩, fun i hi => by omega⟩
  · simp [Value.cells] at hcs
    obtain ⟨rfl, rfl, rfl⟩ := hcs
    have hle : len ≤ m := by rw [hmm]; split <;> omega
    have key : ∀ i, i < len → ∀ j, j < fs.size → ∃ v, w.cell? (x.add (i * fs.size + j)) = some v ∧ ∀ f, fs[j]? = some f → (P.underlying f.type = some .bool → ∃ b, v = .bool b) ∧ ∀ k, P.underlying f.type = some (.int k) → ∃ y, v = .int k y ∧ (Lit.int k y).wf = true := fun i hi j hj => by
      obtain ⟨cs', hc, ht'⟩ := hx i (by omega)
      rw [hC] at hc
      obtain ⟨ys, n', hn', hy, hlen, hyl, hfl⟩ := DataW.trod_struct he ht'
      obtain ⟨_, hcl, hat⟩ := World.cells?_some hc
      have hcell := hat j hj
      have hv : cs'[j]? = some (cs'[j]'(by omega)) := List.getElem?_eq_getElem (by omega)
      refine ⟨cs'[j]'(by omega), by rw [← Go.Deep.add_add, hcell, hv], fun f hfj => ?_⟩
      obtain ⟨ho, hk⟩ := hone_of hone j f hfj
      have h1 := hfl j f hfj
      rw [ho, hk] at h1
      have hone' : (cs'.drop j).take 1 = [cs'[j]'(by omega)] := by
        rw [List.drop_eq_getElem_cons (by omega)]
        rfl
      rw [hone'] at h1
      have hys : ys[j]? = some (ys[j]'(by omega)) := List.getElem?_eq_getElem (by omega)
      rw [hys] at h1
      refine ⟨fun hb => ?_, fun k hk2 => ?_⟩
      · obtain ⟨b, e1, _⟩ := DataW.trod_bool hb h1
        exact ⟨b, by simpa using e1⟩
      · obtain ⟨y, e1, _, wy⟩ := DataW.trod_int hk2 h1
        exact ⟨y, by simpa using e1, wy⟩
    refine ⟨fun i j => (w.cell? (x.add (i * fs.size + j))).getD .nilIface, ⟨by unfold maxLen at hm; omega, fun h0 => ?_⟩, fun i hi j hj f hfj => ?_⟩
    · obtain ⟨v0, hv0, _⟩ := key 0 h0 0 hpos
      obtain ⟨bk, off, rfl, hlt⟩ := spot_add (by simp) hv0
      refine ⟨bk, off, rfl, hlt, fun i hi j hj => ?_⟩
      obtain ⟨v, hv, _⟩ := key i hi j hj
      show _ = some ((w.cell? ((⟨bk, off, none⟩ : Addr).add (i * fs.size + j))).getD .nilIface)
      rw [← addr_add, hv]; rfl
    · obtain ⟨v, hv, hvf⟩ := key i hi j hj
      show (_ → ∃ b, (w.cell? (x.add (i * fs.size + j))).getD .nilIface = .bool b) ∧ _
      simp only [hv]; exact hvf f hfj
end
end Go.Proofs.Ytmlcjmgclfgbiaa
