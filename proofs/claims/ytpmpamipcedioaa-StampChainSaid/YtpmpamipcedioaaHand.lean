/- Rows that are known whole: of ints, of floats, of pairs (an int, a float); one element set. Plain. -/
import Derived.Test.YtpmpamipcedioaaRows
import Derived.WalkKit
import Derived.WalkSpells
import Derived.WalkLawsBesides
import Derived.Handy
import Derived.Laws.MakeOwn
import Derived.Test.YtpmpamipcedioaaMem
namespace Go.Proofs.Ytpmpamipcedioaa
open Go.RowKit
set_option linter.unusedVariables false

def upd {α : Type} (f : Nat → α) (i : Nat) (v : α) : Nat → α := fun j => if j = i then v else f j
theorem upd_same {α : Type} (f : Nat → α) (i : Nat) (v : α) : upd f i v i = v := by simp [upd]
theorem upd_other {α : Type} (f : Nat → α) {i j : Nat} (v : α) (h : j ≠ i) : upd f i v j = f j := by simp [upd, h]
/-- A row of n ints. -/
def intA (f : Nat → Int) (n : Nat) : Array Value := Array.ofFn fun j : Fin n => Value.int .i64 (f j.1)
/-- A row of n floats. -/
def fltA (f : Nat → Nat) (n : Nat) : Array Value := Array.ofFn fun j : Fin n => Value.float .f64 (f j.1)
/-- A row of n pairs. -/
def handA (f : Nat → Int) (r : Nat → Nat) (n : Nat) : Array Value := Array.ofFn fun j : Fin (n * 2) => if j.1 % 2 = 0 then Value.int .i64 (f (j.1 / 2)) else Value.float .f64 (r (j.1 / 2))
theorem intA_size (f : Nat → Int) (n : Nat) : (intA f n).size = n := by simp [intA]
theorem fltA_size (f : Nat → Nat) (n : Nat) : (fltA f n).size = n := by simp [fltA]
theorem handA_size (f : Nat → Int) (r : Nat → Nat) (n : Nat) : (handA f r n).size = n * 2 := by simp [handA]
theorem intA_get (f : Nat → Int) (n j : Nat) : (intA f n)[j]? = if j < n then some (.int .i64 (f j)) else none := by
  simp [intA, Array.getElem?_ofFn]
theorem fltA_get (f : Nat → Nat) (n j : Nat) : (fltA f n)[j]? = if j < n then some (.float .f64 (f j)) else none := by
  simp [fltA, Array.getElem?_ofFn]
theorem handA_get (f : Nat → Int) (r : Nat → Nat) (n j : Nat) : (handA f r n)[j]? = if j < n * 2 then some (if j % 2 = 0 then .int .i64 (f (j / 2)) else .float .f64 (r (j / 2))) else none := by
  simp [handA, Array.getElem?_ofFn]
theorem handA_get0 (f : Nat → Int) (r : Nat → Nat) {n i : Nat} (h : i < n) : (handA f r n)[i * 2]? = some (.int .i64 (f i)) := by
  rw [handA_get, if_pos (by omega), if_pos (by omega), show i * 2 / 2 = i by omega]
theorem handA_get1 (f : Nat → Int) (r : Nat → Nat) {n i : Nat} (h : i < n) : (handA f r n)[i * 2 + 1]? = some (.float .f64 (r i)) := by
  rw [handA_get, if_pos (by omega), if_neg (by omega), show (i * 2 + 1) / 2 = i by omega]
theorem intA_set (f : Nat → Int) {n i : Nat} (v : Int) : (intA f n).setIfInBounds i (.int .i64 v) = intA (upd f i v) n := by
  apply Array.ext_getElem?
  intro j
  rw [Array.getElem?_setIfInBounds, intA_get, intA_get, intA_size]
  unfold upd
  by_cases h : i = j
  · subst h; simp
  · have h' : j ≠ i := fun e => h e.symm
    simp [h, h']
theorem fltA_set (f : Nat → Nat) {n i : Nat} (v : Nat) : (fltA f n).setIfInBounds i (.float .f64 v) = fltA (upd f i v) n := by
  apply Array.ext_getElem?
  intro j
  rw [Array.getElem?_setIfInBounds, fltA_get, fltA_get, fltA_size]
  unfold upd
  by_cases h : i = j
  · subst h; simp
  · have h' : j ≠ i := fun e => h e.symm
    simp [h, h']
theorem handA_set0 (f : Nat → Int) (r : Nat → Nat) {n i : Nat} (v : Int) : (handA f r n).setIfInBounds (i * 2) (.int .i64 v) = handA (upd f i v) r n := by
  apply Array.ext_getElem?
  intro j
  rw [Array.getElem?_setIfInBounds, handA_get, handA_get, handA_size]
  unfold upd
  by_cases h : i * 2 = j
  · subst h
    have e1 : i * 2 / 2 = i := by omega
    have e2 : i * 2 % 2 = 0 := by omega
    simp [e1]
  · rw [if_neg h]
    by_cases h2 : j < n * 2
    · rw [if_pos h2, if_pos h2]
      by_cases h3 : j % 2 = 0
      · rw [if_pos h3, if_pos h3, if_neg (by omega)]
      · rw [if_neg h3, if_neg h3]
    · rw [if_neg h2, if_neg h2]
theorem handA_set1 (f : Nat → Int) (r : Nat → Nat) {n i : Nat} (v : Nat) : (handA f r n).setIfInBounds (i * 2 + 1) (.float .f64 v) = handA f (upd r i v) n := by
  apply Array.ext_getElem?
  intro j
  rw [Array.getElem?_setIfInBounds, handA_get, handA_get, handA_size]
  unfold upd
  by_cases h : i * 2 + 1 = j
  · subst h
    have e1 : (i * 2 + 1) / 2 = i := by omega
    have e2 : (i * 2 + 1) % 2 = 1 := by omega
    simp [e1, e2]
  · rw [if_neg h]
    by_cases h2 : j < n * 2
    · rw [if_pos h2, if_pos h2]
      by_cases h3 : j % 2 = 0
      · rw [if_pos h3, if_pos h3]
      · rw [if_neg h3, if_neg h3, if_neg (by omega)]
    · rw [if_neg h2, if_neg h2]
theorem intA_congr {f g : Nat → Int} {n : Nat} (h : ∀ i, i < n → f i = g i) : intA f n = intA g n := by
  apply Array.ext_getElem?
  intro j
  rw [intA_get, intA_get]
  by_cases h2 : j < n
  · rw [if_pos h2, if_pos h2, h j h2]
  · rw [if_neg h2, if_neg h2]
theorem handA_congr {f g : Nat → Int} {r s : Nat → Nat} {n : Nat} (h : ∀ i, i < n → f i = g i) (k : ∀ i, i < n → r i = s i) : handA f r n = handA g s n := by
  apply Array.ext_getElem?
  intro j
  rw [handA_get, handA_get]
  by_cases h2 : j < n * 2
  · rw [if_pos h2, if_pos h2, h _ (by omega), k _ (by omega)]
  · rw [if_neg h2, if_neg h2]
/-- What make makes. -/
theorem made_int (n : Nat) : madeCells (Value.int .i64 0).cells (n * 1) = intA (fun _ => 0) n := by
  apply Array.ext_getElem?
  intro j
  rw [intA_get]
  unfold madeCells
  rw [Nat.mul_one, Array.getElem?_map]
  by_cases h : j < n
  · rw [if_pos h]; simp [h, Value.cells, Nat.mod_one]
  · rw [if_neg h]; simp [h]
theorem made_flt (n : Nat) : madeCells (Value.float .f64 0).cells (n * 1) = fltA (fun _ => 0) n := by
  apply Array.ext_getElem?
  intro j
  rw [fltA_get]
  unfold madeCells
  rw [Nat.mul_one, Array.getElem?_map]
  by_cases h : j < n
  · rw [if_pos h]; simp [h, Value.cells, Nat.mod_one]
  · rw [if_neg h]; simp [h]
theorem made_hand (n : Nat) : madeCells (Value.agg #[.int .i64 0, .float .f64 0]).cells (n * 2) = handA (fun _ => 0) (fun _ => 0) n := by
  apply Array.ext_getElem?
  intro j
  rw [handA_get]
  unfold madeCells
  rw [Array.getElem?_map]
  by_cases h : j < n * 2
  · rw [if_pos h]
    have h3 : j % 2 = 0 ∨ j % 2 = 1 := by omega
    rcases h3 with h3 | h3 <;> simp [h, Value.cells, h3]
  · rw [if_neg h]; simp [h]
end Go.Proofs.Ytpmpamipcedioaa
