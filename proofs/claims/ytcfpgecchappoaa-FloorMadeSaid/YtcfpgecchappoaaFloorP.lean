/- The law FloorMade, joined. -/
import Derived.Test.YtcfpgecchappoaaFloorO1
import Derived.Test.YtcfpgecchappoaaFloorO2
import Derived.Test.YtcfpgecchappoaaFloorO3
import Derived.Test.YtcfpgecchappoaaFloorO4
namespace Go.Proofs.Ytcfpgecchappoaa
open Go.RowKit

theorem law_floorMade (A : Option Addr) (n cap : Nat) (l : List Int) (c0 c1 c2 c3 c4 c5 : Int) (w : World) (hl : l.length = n) (hr : Reads w w.heap.size 1 A n (l.map (Value.int .i64))) :
    Calls Try.prog 6 #[.agg #[.int .i64 c0, .int .i64 c1, .int .i64 c2, .int .i64 c3, .int .i64 c4, .int .i64 c5], .slice A n cap] w
     fun en w' => en = .returned (.bool true) ∧ Mod nowhere w w' := by
  by_cases g0 : 50 < n
  · exact made_long A n cap w c0 c1 c2 c3 c4 c5 g0
  by_cases hC : CfgOk c0 c1 c2 c3 c4 c5
  · by_cases hN : (n : Int) = c0
    · by_cases hK : c2 < 2 * (n : Int)
      · exact made_4 A n cap w c0 c1 c2 c3 c4 c5 g0 hC hN hK
      · have hK' : 2 * (n : Int) ≤ c2 := by omega
        subst hN
        obtain ⟨k1, rfl⟩ : ∃ k1 : Nat, c1 = k1 := ⟨c1.toNat, by have := hC.2.1; omega⟩
        obtain ⟨k3, rfl⟩ : ∃ k3 : Nat, c3 = k3 := ⟨c3.toNat, by have := hC.2.2.2.1; omega⟩
        have h4 : c4 = 1 ∨ c4 = 2 ∨ c4 = 3 ∨ c4 = 4 := by have := hC.2.2.2.2.1; omega
        rcases h4 with rfl | rfl | rfl | rfl
        · exact mgr1.made_0 A n cap k1 k3 l w c2 c5 hl hr hC hK'
        · exact mgr2.made_0 A n cap k1 k3 l w c2 c5 hl hr hC hK'
        · exact mgr3.made_0 A n cap k1 k3 l w c2 c5 hl hr hC hK'
        · exact mgr4.made_0 A n cap k1 k3 l w c2 c5 hl hr hC hK'
    · exact made_3 A n cap w c0 c1 c2 c3 c4 c5 g0 hC hN
  · exact made_2 A n cap w c0 c1 c2 c3 c4 c5 g0 hC
end Go.Proofs.Ytcfpgecchappoaa
