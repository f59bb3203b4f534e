/- What Make picks, in plain words. -/
import Derived.Test.YtffeidjalphemaaCan
namespace Go.Proofs.Ytffeidjalphemaa
open Go.RowKit

def minAt (pt : List Int) : Nat → Nat
  | 0 => 0
  | k + 1 => if pt.getD k 0 < pt.getD (minAt pt k) 0 then k else minAt pt k
theorem minAt_lt (pt : List Int) {k : Nat} (h : 0 < k) : minAt pt k < k := by
  induction k with
  | zero => omega
  | succ k ih =>
    unfold minAt
    split
    · omega
    · by_cases h0 : 0 < k
      · have := ih h0; omega
      · have : k = 0 := by omega
        subst this; simp [minAt]
theorem minAt_le (pt : List Int) {k t : Nat} (h : t < k) : pt.getD (minAt pt k) 0 ≤ pt.getD t 0 ∧ (t < minAt pt k → pt.getD (minAt pt k) 0 < pt.getD t 0) := by
  induction k with
  | zero => omega
  | succ k ih =>
    unfold minAt
    split
    · rename_i hlt
      by_cases e : t = k
      · subst e; exact ⟨Int.le_refl _, fun h => by omega⟩
      · have := ih (by omega)
        exact ⟨by omega, fun _ => by omega⟩
    · rename_i hlt
      by_cases e : t = k
      · subst e
        refine ⟨by omega, fun h1 => ?_⟩
        by_cases h0 : 0 < t
        · have := minAt_lt pt h0; omega
        · have : t = 0 := by omega
          subst this; simp [minAt] at h1
      · exact ih (by omega)
/-- Whom a heap of all hands over first. -/
theorem minAt_of {pt : List Int} {n : Nat} {t : Nat} (ht : t < n) (h : ∀ s, s < n → leW ((t : Int), pt.getD t 0) ((s : Int), pt.getD s 0)) : t = minAt pt n := by
  have h1 := minAt_lt pt (show 0 < n by omega)
  have h2 := minAt_le pt ht
  have h3 := h _ h1
  unfold leW ltW at h3
  simp only at h3
  have : ¬ (t < minAt pt n) := fun hh => by have := h2.2 hh; omega
  omega
def pickW (n : Nat) (w : Int) : Nat := ((if 0 < w then w else 0) % (n : Int)).toNat
theorem pickW_lt {n : Nat} (h : 0 < n) (w : Int) : pickW n w < n := by
  unfold pickW
  have h1 := Int.emod_nonneg (if 0 < w then w else 0) (show (n : Int) ≠ 0 by omega)
  have h2 := Int.emod_lt_of_pos (if 0 < w then w else 0) (show (0 : Int) < n by omega)
  omega
theorem pickW_eq {n : Nat} (h : 0 < n) (w : Int) : (if 0 < w then w else 0) % (n : Int) = (pickW n w : Int) := by
  unfold pickW
  have h1 := Int.emod_nonneg (if 0 < w then w else 0) (show (n : Int) ≠ 0 by omega)
  omega
def pickOf (pt : List Int) (n : Nat) (w : Int) : Nat := if CanP (qto pt (pickW n w : Nat) n) then pickW n w else minAt pt n
theorem pickOf_lt (pt : List Int) {n : Nat} (h : 0 < n) (w : Int) : pickOf pt n w < n := by
  unfold pickOf
  split
  · exact pickW_lt h w
  · exact minAt_lt pt h
def stepPt (f : Int) (pt : List Int) (k : Nat) : List Int := (pt.map (· - 1)).set k (f - 1)
theorem stepPt_length (f : Int) (pt : List Int) (k : Nat) : (stepPt f pt k).length = pt.length := by simp [stepPt]
theorem stepPt_at (f : Int) {pt : List Int} {k t : Nat} (ht : t < pt.length) : (stepPt f pt k).getD t 0 = if t = k then f - 1 else pt.getD t 0 - 1 := by
  unfold stepPt
  simp only [List.getD_eq_getElem?_getD, List.getElem?_set, List.length_map, List.getElem?_map]
  by_cases e : k = t
  · subst e; simp [ht]
  · rw [if_neg e, if_neg (Ne.symm e), List.getElem?_eq_getElem ht]; rfl
/-- The patience, and the picks, behind some wishes. -/
def stM (f : Int) (n : Nat) (ws : List Int) : List Int × List Int :=
  ws.foldl (fun s w => (stepPt f s.1 (pickOf s.1 n w), s.2 ++ [((pickOf s.1 n w : Nat) : Int)])) (List.replicate n (f - 1), [])
theorem stM_snoc (f : Int) (n : Nat) (ws : List Int) (w : Int) : stM f n (ws ++ [w]) = (stepPt f (stM f n ws).1 (pickOf (stM f n ws).1 n w), (stM f n ws).2 ++ [((pickOf (stM f n ws).1 n w : Nat) : Int)]) := by
  unfold stM; rw [List.foldl_append]; rfl
theorem stM_nil (f : Int) (n : Nat) : stM f n [] = (List.replicate n (f - 1), []) := rfl
/-- What holds behind any wishes. -/
theorem stM_ind (f : Int) (n : Nat) (P : List Int → List Int × List Int → Prop) (h0 : P [] (List.replicate n (f - 1), [])) (hs : ∀ ws w, P ws (stM f n ws) → P (ws ++ [w]) (stM f n (ws ++ [w]))) (ws : List Int) : P ws (stM f n ws) := by
  have key : ∀ k, P (ws.take k) (stM f n (ws.take k)) := by
    intro k
    induction k with
    | zero => simpa [stM_nil] using h0
    | succ k ih =>
      by_cases hk : k < ws.length
      · have := hs _ ws[k] ih
        rwa [show ws.take k ++ [ws[k]] = ws.take (k + 1) by rw [List.take_add_one, List.getElem?_eq_getElem hk]; rfl] at this
      · rw [List.take_of_length_le (by omega)] at ih ⊢; exact ih
  have := key ws.length
  rwa [List.take_of_length_le (Nat.le_refl _)] at this
theorem stM_len (f : Int) (n : Nat) (ws : List Int) : (stM f n ws).1.length = n ∧ (stM f n ws).2.length = ws.length := by
  refine stM_ind f n (fun ws s => s.1.length = n ∧ s.2.length = ws.length) (by simp) (fun ws w ih => ?_) ws
  rw [stM_snoc]
  exact ⟨by rw [stepPt_length]; exact ih.1, by simp [ih.2]⟩
theorem stM_bound (f : Int) (n : Nat) (ws : List Int) : ∀ t, t < n → f - 1 - ws.length ≤ (stM f n ws).1.getD t 0 ∧ (stM f n ws).1.getD t 0 ≤ f - 1 := by
  refine stM_ind f n (fun ws s => ∀ t, t < n → f - 1 - ws.length ≤ s.1.getD t 0 ∧ s.1.getD t 0 ≤ f - 1) (fun t ht => by simp [List.getD_eq_getElem?_getD, ht]) (fun ws w ih t ht => ?_) ws
  rw [stM_snoc]
  simp only
  rw [stepPt_at _ (by rw [(stM_len f n ws).1]; exact ht)]
  have := ih t ht
  simp only [List.length_append, List.length_cons, List.length_nil]
  split <;> omega
end Go.Proofs.Ytffeidjalphemaa
