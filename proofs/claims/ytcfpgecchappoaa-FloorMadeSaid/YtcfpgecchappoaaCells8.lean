/- The document's example of layer 4, run. -/
import Derived.Test.YtcfpgecchappoaaCells7
namespace Go.Proofs.Ytcfpgecchappoaa
open Go.RowKit

theorem Sys.mono {w : World} {B B' r N nd : Nat} {K : KD} {cs : List Value} {v : Nat → Nat} {M : Int → Option Nat} {q : Int → Nat} {st : Int → Int} (h : Sys w B K r N cs v nd M q st) (hB : B' ≤ B) : Sys w B' K r N cs v nd M q st :=
  { h with cf := { h.cf with bs := fun i hi => Nat.le_trans hB (h.cf.bs i hi), old := ⟨Nat.le_trans hB h.cf.old.1, Nat.le_trans hB h.cf.old.2⟩ }, bd := fun i d hd => ⟨Nat.le_trans hB (h.bd i d hd).1, Nat.le_trans hB (h.bd i d hd).2⟩, old := ⟨Nat.le_trans hB h.old.1, Nat.le_trans hB h.old.2.1, Nat.le_trans hB h.old.2.2.1, Nat.le_trans hB h.old.2.2.2⟩ }

theorem Cur.mk {cs : List Value} {N : Nat} {st : Int → Int} {l : Nat} {val : Int} (own old new : Int) (y : Nat) (h1 : l < N) (h2 : Rec9 cs l 2 0 own old new 0 0 0 0) (h3 : I64 own) (h4 : (if own = -1 ∨ st own = 2 then new else old) = (y : Int)) (h5 : y < N) (h6 : Rec9 cs y 1 val 0 0 0 0 0 0 0) : Cur cs N st l val :=
  ⟨own, old, new, y, h1, h2, h3, h4, h5, h6⟩

/-- What made answers: a system of as many objects as there are first values. -/
def MadeSys (w w' : World) (n : Nat) (most : Int) (l : List Int) (e : Ending) : Prop :=
  ∃ (K : KD) (r : Nat) (cs : List Value), e = .returned (.tuple #[.pointer (some ⟨K.a, 0, none⟩), .pointer (some ⟨K.t, 0, none⟩), .pointer (some ⟨K.c, 0, none⟩), .int .i64 0]) ∧ K.k = n ∧ K.most = most ∧
    Sys w' w.heap.size K r (2 * n) cs (fun i => 2 * i + 1) 0 (fun _ => none) (fun _ => 0) (fun _ => 0) ∧ First l n cs ∧ Mod nowhere w w'
end Go.Proofs.Ytcfpgecchappoaa
