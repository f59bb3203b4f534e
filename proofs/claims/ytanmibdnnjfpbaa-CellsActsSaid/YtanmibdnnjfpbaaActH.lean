/- The law CellsActs, joined. -/
import Derived.Test.YtanmibdnnjfpbaaActG
namespace Go.Proofs.Ytanmibdnnjfpbaa
open Go.RowKit

theorem law_cellsActs (x : Int) (A : Option Addr) (n0 c0 : Nat) (l : List Int) (A3 : Option Addr) (n3 c3 : Nat) (l3 : List (Nat → Int)) (w : World) (hx0 : 0 ≤ x) (hx1 : x ≤ 255) (hl : l.length = n0) (hr : Reads w w.heap.size 1 A n0 (l.map (Value.int .i64))) (hl3 : l3.length = n3) (hr3 : IntRows w w.heap.size A3 n3 5 l3) (hi3 : ∀ y ∈ l3, ∀ j, j < 5 → I64 (y j)) :
    Calls Try.prog 3 #[.int .u8 x, .slice A n0 c0, .slice A3 n3 c3] w
     fun en w' => en = .returned (.bool true) ∧ Mod nowhere w w' := by
  by_cases g : 100 < n3 ∨ 20 < n0
  · exact acts_long x A n0 c0 A3 n3 c3 w g
  have g0 : ¬ 100 < n3 := fun h => g (.inl h)
  have g1 : ¬ 20 < n0 := fun h => g (.inr h)
  obtain ⟨mm, hm⟩ : ∃ mm : Nat, x % 64 = (mm : Int) := ⟨(x % 64).toNat, by omega⟩
  by_cases h1 : n0 < 1 ∨ 8 < n0
  · exact acts_bad x hx0 hx1 A n0 c0 A3 n3 c3 w 2 g0 g1 mm hm (.inl ⟨h1, rfl⟩)
  · by_cases h2 : 1 + (mm : Int) < 2 * (n0 : Int)
    · exact acts_bad x hx0 hx1 A n0 c0 A3 n3 c3 w 4 g0 g1 mm hm (.inr ⟨by omega, by omega, h2, rfl⟩)
    · exact acts_good x hx0 hx1 A n0 c0 l A3 n3 c3 l3 w hl hr hl3 hr3 hi3 g0 g1 mm hm (by omega) (by omega) (by omega)
end Go.Proofs.Ytanmibdnnjfpbaa
