/- A descriptor that is turned, raised: the law DescOnce, walked. -/
import Derived.Test.YtanmibdnnjfpbaaDesc3
import Derived.Test.YtanmibdnnjfpbaaB2
import Derived.LoopTactic
import Derived.Outline
namespace Go.Proofs.Ytanmibdnnjfpbaa
open Go.RowKit

set_option maxHeartbeats 1000000 in
theorem turn_bad (t : Nat) (id to : Int) (a m : Nat) (w : World) (ht : IsTab w t a m) (hto : ¬ to = 2 ∧ ¬ to = 3) :
    Calls Try.prog 14 #[.pointer (some ⟨t, 0, none⟩), .int .i64 id, .int .i64 to] w fun e w' => e = .returned (.bool false) ∧ Mod nowhere w w' := by
  have q2 : (to == 2) = false := beq_eq_false_iff_ne.2 hto.1
  have q3 : (to == 3) = false := beq_eq_false_iff_ne.2 hto.2
  clear hto
  have c_ht := ht.cell; have f_ht := ht.frozen; have l_ht := ht.lt
  go_enter Try.func14, Try.ntmps14
  go_wp2_with go_in
  go_ret
  exact ⟨rfl, (by repeat (first | with_reducible exact Mod.refl _ _ | with_reducible assumption | with_reducible refine Mod.alloc ?_ _ | with_reducible refine Mod.drew ?_ | with_reducible refine Mod.drewN ?_ _ | with_reducible refine Mod.setCell ?_ (by first | exact .inl rfl | (left; (try unfold from_); show _ ≤ _; first | omega | (simp; done) | (simp; omega)) | (right; first | omega | (simp; done) | (simp; omega))) _ | with_reducible refine Mod.call0 ?_ (by with_reducible assumption) | with_reducible refine Mod.call ?_ (by with_reducible assumption) (by first | (rintro _ rfl; first | exact .inl rfl | (right; (first | omega | (simp; done) | (simp; omega)))) | (rintro _ (rfl | rfl) <;> (right; (first | omega | (simp; done) | (simp; omega)))))))⟩
def mapOne (d : Nat) (k : Int) : Option Nat := if k = ((0 : Nat) : Int) then some d else none

end Go.Proofs.Ytanmibdnnjfpbaa
