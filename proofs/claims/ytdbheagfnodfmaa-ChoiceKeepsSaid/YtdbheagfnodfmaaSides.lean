/- An argument that is a slice of sides. -/
import Derived.Test.YtdbheagfnodfmaaChoice
namespace Go.Proofs.Ytdbheagfnodfmaa
open Go.RowKit Go.ChangeShapes Go.WideShapes Go.ChangeAt Go.Joins

def boolOf : Value → Bool
  | .bool b => b
  | _ => false
def numV : Value → Int
  | .int _ n => n
  | _ => 0
/-- The cells of a row of sides. -/
def SideRow (w : World) (B : Nat) (A : Option Addr) (n : Nat) (l : List Sd) : Prop :=
  0 < n → ∃ b o, A = some ⟨b, o, none⟩ ∧ b < B ∧ ∀ i (x : Sd), l[i]? = some x →
    w.cell? ⟨b, o + (i * 5 + 0), none⟩ = some (.int .i64 x.id) ∧ w.cell? ⟨b, o + (i * 5 + 1), none⟩ = some (.int .i64 x.stamp) ∧ w.cell? ⟨b, o + (i * 5 + 2), none⟩ = some (.int .i64 x.prio) ∧
    w.cell? ⟨b, o + (i * 5 + 3), none⟩ = some (.int .i64 x.pulse) ∧ w.cell? ⟨b, o + (i * 5 + 4), none⟩ = some (.bool x.waiting)

theorem open_sides {H : Type} {enc : TypeId × Value → H} {w : World} {base : Nat} {held : Bool} {r : Reach} {b0 : Nat} {v : Value} {d : DataW H} {p : List MemPlace}
    (hv : Value.okWide Try.prog w r b0 37 v) (h : DataW.Trod enc Try.prog w base (fun _ => true) held 37 v d p) :
    ∃ (A : Option Addr) (n c : Nat) (l : List Sd), v = .slice A n c ∧ l.length = n ∧ SideRow w w.heap.size A n l := by
  obtain ⟨A, n, c, l, rfl, hl, -, -, hc, hf⟩ := open_recs Try.underlying37 Try.underlying25 (by kernel_rfl) (by kernel_rfl) (by decide) hv h
  have hx : ∀ x ∈ l, x 0 = .int .i64 (numV (x 0)) ∧ x 1 = .int .i64 (numV (x 1)) ∧ x 2 = .int .i64 (numV (x 2)) ∧ x 3 = .int .i64 (numV (x 3)) ∧ x 4 = .bool (boolOf (x 4)) := by
    intro x hx
    obtain ⟨_, _, t0⟩ := hf x hx 0 _ rfl
    obtain ⟨_, _, t1⟩ := hf x hx 1 _ rfl
    obtain ⟨_, _, t2⟩ := hf x hx 2 _ rfl
    obtain ⟨_, _, t3⟩ := hf x hx 3 _ rfl
    obtain ⟨_, _, t4⟩ := hf x hx 4 _ rfl
    obtain ⟨q0, e0, -⟩ := lit_int_of Try.underlying3 t0
    obtain ⟨q1, e1, -⟩ := lit_int_of Try.underlying3 t1
    obtain ⟨q2, e2, -⟩ := lit_int_of Try.underlying3 t2
    obtain ⟨q3, e3, -⟩ := lit_int_of Try.underlying3 t3
    obtain ⟨q4, e4⟩ := lit_bool_of Try.underlying4 t4
    rw [e0, e1, e2, e3, e4]
    exact ⟨rfl, rfl, rfl, rfl, rfl⟩
  refine ⟨A, n, c, l.map fun x => ⟨numV (x 0), numV (x 1), numV (x 2), numV (x 3), boolOf (x 4)⟩, rfl, by simpa using hl, fun hn => ?_⟩
  obtain ⟨b, o, rfl, hb, hcell⟩ := hc hn
  refine ⟨b, o, rfl, hb, fun i x hi => ?_⟩
  rw [List.getElem?_map] at hi
  obtain ⟨y, hy, rfl⟩ := Option.map_eq_some_iff.1 hi
  have hm := hcell i y hy
  obtain ⟨k0, k1, k2, k3, k4⟩ := hx y (List.mem_of_getElem? hy)
  have h0 := hm 0 (by decide)
  have h1 := hm 1 (by decide)
  have h2 := hm 2 (by decide)
  have h3 := hm 3 (by decide)
  have h4 := hm 4 (by decide)
  rw [k0] at h0
  rw [k1] at h1
  rw [k2] at h2
  rw [k3] at h3
  rw [k4] at h4
  exact ⟨h0, h1, h2, h3, h4⟩
end Go.Proofs.Ytdbheagfnodfmaa
