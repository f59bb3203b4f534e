/- A slice of structs whose fields are whole numbers; a slice of bools: opened as an argument. -/
import Derived.Test.YtanmibdnnjfpbaaB
import Derived.Deep.Grids
namespace Go.Proofs.Ytanmibdnnjfpbaa
open Go.RowKit Go.ChangeShapes Go.WideShapes Go.Deep Go.Joins Go.ChangeAt

def numOf : Value → Int
  | .int _ n => n
  | _ => 0
/-- The cells of a row of structs of m whole numbers. -/
def IntRows (w : World) (B : Nat) (A : Option Addr) (n m : Nat) (l : List (Nat → Int)) : Prop :=
  0 < n → ∃ b o, A = some ⟨b, o, none⟩ ∧ b < B ∧ ∀ i x, l[i]? = some x → ∀ j, j < m → w.cell? ⟨b, o + (i * m + j), none⟩ = some (.int .i64 (x j))

section
variable {H : Type} {enc : TypeId × Value → H} {P : Program} {w : World} {base : Nat} {held : Bool}
theorem open_int_recs {r : Reach} {b0 : Nat} {t e : TypeId} {fs : Array Field} {v : Value} {d : DataW H} {p : List MemPlace} (ht : P.underlying t = some (.slice e)) (he : P.underlying e = some (.struct fs))
    (hone : oneCellFields P fs = true) (hC : P.cellsOf e = fs.size) (hpos : 0 < fs.size) (hint : ∀ f ∈ fs.toList, P.underlying f.type = some (.int .i64)) (hv : Value.okWide P w r b0 t v) (h : DataW.Trod enc P w base (fun _ => true) held t v d p) :
    ∃ (A : Option Addr) (n c : Nat) (l : List (Nat → Int)), v = .slice A n c ∧ l.length = n ∧ IntRows w w.heap.size A n fs.size l ∧ ∀ x ∈ l, ∀ j, j < fs.size → I64 (x j) := by
  obtain ⟨A, n, c, l, rfl, hl, -, -, hc, hf⟩ := open_recs ht he hone hC hpos hv h
  have hx : ∀ x ∈ l, ∀ j, j < fs.size → x j = .int .i64 (numOf (x j)) ∧ I64 (numOf (x j)) := by
    intro x hx j hj
    obtain ⟨_, _, t0⟩ := hf x hx j fs[j] (Array.getElem?_eq_getElem hj)
    obtain ⟨q0, e0, w0⟩ := lit_int_of (hint fs[j] (by simp)) t0
    rw [e0]
    exact ⟨rfl, I64.of_wf w0⟩
  refine ⟨A, n, c, l.map fun x j => numOf (x j), rfl, by simpa using hl, fun hn => ?_, ?_⟩
  · obtain ⟨b, o, rfl, hb, hcell⟩ := hc hn
    refine ⟨b, o, rfl, hb, fun i x hi j hj => ?_⟩
    rw [List.getElem?_map] at hi
    obtain ⟨y, hy, rfl⟩ := Option.map_eq_some_iff.1 hi
    rw [hcell i y hy j hj, (hx y (List.mem_of_getElem? hy) j hj).1]
  · intro x hx' j hj
    obtain ⟨y, hy, rfl⟩ := List.mem_map.1 hx'
    exact (hx y hy j hj).2
/-- An argument that is a slice of bools. -/
theorem open_bools_reads {r : Reach} {b0 : Nat} {t e : TypeId} {v : Value} {d : DataW H} {p : List MemPlace} (ht : P.underlying t = some (.slice e)) (he : P.underlying e = some .bool) (hc : P.cellsOf e = 1)
    (hv : Value.okWide P w r b0 t v) (h : DataW.Trod enc P w base (fun _ => true) held t v d p) :
    ∃ (A : Option Addr) (n c : Nat) (xs : List Bool), v = .slice A n c ∧ xs.length = n ∧ Reads w w.heap.size 1 A n (xs.map Value.bool) := by
  obtain ⟨a0, len, cap, rfl⟩ := okWide_slice ht hv
  obtain ⟨fuel, hf⟩ := h
  rcases Go.Deep.open_bools ht he hc hf with ⟨hcs, -⟩ | ⟨a, len', cap', B, hcs, -, hl, hm, -, hcell⟩
  · obtain ⟨rfl, rfl, rfl⟩ : a0 = none ∧ len = 0 ∧ cap = 0 := by simpa [Value.cells] using hcs
    exact ⟨none, 0, 0, [], rfl, rfl, Reads.none_⟩
  · obtain ⟨rfl, rfl, rfl⟩ : a0 = some a ∧ len = len' ∧ cap = cap' := by simpa [Value.cells] using hcs
    have hlen : ((List.range len).map B).length = len := by simp
    refine ⟨some a, len, cap, (List.range len).map B, rfl, hlen, by simp, fun hn => ⟨a, rfl, ?_, fun j u hu => ?_⟩⟩
    · have h0 := hcell 0 (by omega)
      have := World.block_lt_of_cell? w _ h0
      simpa [block_of_add] using this
    · have hj : j < len := by
        have := (List.getElem?_eq_some_iff.1 hu).1
        rw [List.length_map, hlen] at this
        exact this
      rw [hcell j (by omega)]
      rw [List.getElem?_map, List.getElem?_map, List.getElem?_range hj] at hu
      simpa using hu
end
end Go.Proofs.Ytanmibdnnjfpbaa
