/- The document's example of layer 3, run; no table. -/
import Derived.Test.YtanmibdnnjfpbaaDesc2
import Derived.Laws.StructEq
import Derived.Outline
namespace Go.Proofs.Ytanmibdnnjfpbaa
open Go.RowKit

def MadeTab (w w' : World) (most : Int) (e : Ending) : Prop :=
  ∃ a m t, e = .returned (.tuple #[.pointer (some ⟨a, 0, none⟩), .pointer (some ⟨t, 0, none⟩)]) ∧ Arn_rec w' a a 0 most [] ∧ IsTab w' t a m ∧ IsPMap w' m 0 (fun _ => none) ∧ w.heap.size ≤ a ∧ w.heap.size ≤ m ∧ w.heap.size ≤ t ∧ a ≠ m ∧ a ≠ t ∧ m ≠ t ∧ Mod nowhere w w'
end Go.Proofs.Ytanmibdnnjfpbaa
