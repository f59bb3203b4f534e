/- A map from whole numbers to blocks, that the call itself has made. -/
import Derived.Test.YtanmibdnnjfpbaaOwn
import Derived.Maps.Own
import Derived.Maps.Views
import Derived.KernelRfl
import Derived.Test.YtanmibdnnjfpbaaProg
namespace Go.Proofs.Ytanmibdnnjfpbaa
open Go.RowKit

def ptrElem : Value → Option (DataW Nat × List MemPlace)
  | .pointer none => some (.lit (.int .i64 (-1)), [])
  | .pointer (some ⟨b, 0, none⟩) => some (.lit (.int .i64 b), [])
  | _ => none
def ptrD : Option Nat → DataW Nat
  | none => .lit (.int .i64 (-1))
  | some p => .lit (.int .i64 p)
def ptrV : Option Nat → Value
  | none => .pointer none
  | some p => .pointer (some ⟨p, 0, none⟩)
theorem ptrElem_inv {v : Value} {d : Option Nat} {ps : List MemPlace} (h : ptrElem v = some (ptrD d, ps)) : v = ptrV d := by
  unfold ptrElem at h
  split at h
  · cases d with
    | none => rfl
    | some p => simp [ptrD] at h
  · rename_i b
    cases d with
    | none => simp [ptrD] at h
    | some p =>
      simp [ptrD] at h
      have hb : b = p := by omega
      rw [ptrV, hb]
  · cases h

/-- Block b is a map that has M's entries, n at most. -/
def IsPMap (w : World) (b n : Nat) (M : Int → Option Nat) : Prop :=
  ∃ D : DataW Nat, w.ownsMap Try.prog 3 ptrElem b n D ∧ Maps.IsMap D ∧ ∀ i, D.atKey (.int .i64 i) (ptrD none) = ptrD (M i)
section
variable {S : Nat → Prop} {w w' : World} {b n : Nat} {M : Int → Option Nat}
theorem IsPMap.lt (h : IsPMap w b n M) : b < w.heap.size := h.elim fun _ h => h.1.lt
theorem IsPMap.keep (h : IsPMap w b n M) (hm : Mod S w w') (hS : ¬ S b) : IsPMap w' b n M := by
  have hlt := h.lt
  obtain ⟨D, ⟨es, clock, hb, rest⟩, h2⟩ := h
  exact ⟨D, ⟨es, clock, (hm.block b hlt hS).trans hb, rest⟩, h2⟩
theorem IsPMap.keep0 (h : IsPMap w b n M) (hm : Mod nowhere w w') : IsPMap w' b n M := h.keep hm id
theorem IsPMap.drew (h : IsPMap w b n M) : IsPMap w.drew b n M := h
theorem IsPMap.alloc (h : IsPMap w b n M) (o : Obj) : IsPMap (w.alloc o) b n M := h.keep0 ((Mod.refl _ _).alloc o)
theorem IsPMap.made (w : World) : IsPMap (w.alloc (.map #[] 0)) w.heap.size 0 (fun _ => none) :=
  ⟨.map [], World.ownsMap_made w _ _ _, Maps.isMap_empty, fun _ => rfl⟩
theorem pmap_keyed : Maps.Keyed Try.prog 3 := Maps.int_keyed Try.underlying3
theorem pmap_zero (w : World) : (zeroValue 75).run Try.prog w = .ok (.pointer none) w := by kernel_rfl
theorem wf_of {i : Int} (h : I64 i) : (Lit.int .i64 i).wf = true := by
  simp [Lit.wf, IntKind.min, IntKind.max, IntKind.signed, IntKind.bits]
  unfold I64 at h; omega
theorem IsPMap.look (h : IsPMap w b n M) (i : Int) (hi : I64 i) : (Instr.lookup 72 (.map (some b)) (.int .i64 i) false).run Try.prog w = .ok (ptrV (M i)) w := by
  obtain ⟨D, h1, _, h2⟩ := h
  obtain ⟨v, ps, hr, hv⟩ := h1.lookup pmap_keyed Try.underlying72 (pmap_zero w) (zd := ptrD none) (zp := []) rfl (Maps.keyOf_int_mk Try.underlying3 (wf_of hi))
  rw [h2 i] at hv
  rw [hr, ptrElem_inv hv]
theorem IsPMap.put (h : IsPMap w b n M) (i : Int) (p : Nat) (hi : I64 i) (hn : n < maxLen) :
    ∃ w', (Instr.mapUpdate 72 (.map (some b)) (.int .i64 i) (.pointer (some ⟨p, 0, none⟩))).run Try.prog w = .ok () w' ∧ IsPMap w' b (n + 1) (fun k => if k = i then some p else M k) ∧ Mod (· = b) w w' := by
  obtain ⟨D, h1, h3, h2⟩ := h
  obtain ⟨w', hr, ho, hg⟩ := h1.update pmap_keyed Try.underlying72 hn (val := .pointer (some ⟨p, 0, none⟩)) (Maps.keyOf_int_mk Try.underlying3 (wf_of hi)) (d := ptrD (some p)) (ps := []) rfl
  refine ⟨w', hr, ⟨_, ho, h3.put _ _, fun k => ?_⟩, (Mod.of_grown hg).mono fun k hk => by simpa using hk⟩
  show (D.put (.int .i64 i) (ptrD (some p))).atKey (.int .i64 k) (ptrD none) = ptrD (if k = i then some p else M k)
  by_cases hk : k = i
  · subst hk
    rw [if_pos rfl, Maps.atKey_put_same h3 (by trivial)]
  · rw [if_neg hk, Maps.atKey_put_other (by simpa using hk), h2 k]
end
end Go.Proofs.Ytanmibdnnjfpbaa
