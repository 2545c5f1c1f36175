/- A block of three cells, all of them set. Plain. -/
import Derived.Test.YtmlcjmgclfgbiaaRows
import Derived.WalkKit
import Derived.WalkSpells
import Derived.WalkLawsBesides
import Derived.Handy
import Derived.Test.YtmlcjmgclfgbiaaMem
namespace Go.Proofs.Ytmlcjmgclfgbiaa
open Go.RowKit
set_option linter.unusedVariables false

theorem set3 {wr : World} {g : Nat} {t : TypeId} {x y z : Value} (h : Blk wr g t #[x, y, z]) (a b c : Value) :
    Blk (((wr.setCell ⟨g, 0, none⟩ a).setCell ⟨g, 1, none⟩ b).setCell ⟨g, 2, none⟩ c) g t #[a, b, c] ∧ wr.grownBy (((wr.setCell ⟨g, 0, none⟩ a).setCell ⟨g, 1, none⟩ b).setCell ⟨g, 2, none⟩ c) (some g) :=
  ⟨((h.set 0 a).set 1 b).set 2 c, only_setCell (p := ⟨g, 2, none⟩) (only_setCell (p := ⟨g, 1, none⟩) (only_setCell (p := ⟨g, 0, none⟩) (only_refl _ _) (.inl rfl) _) (.inl rfl) _) (.inl rfl) _⟩
end Go.Proofs.Ytmlcjmgclfgbiaa
