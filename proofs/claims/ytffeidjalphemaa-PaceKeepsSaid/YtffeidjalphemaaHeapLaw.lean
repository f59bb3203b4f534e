/- Heaps as lists: what one step up, one step down, does. -/
import Derived.Test.YtffeidjalphemaaHeap
namespace Go.Proofs.Ytffeidjalphemaa

abbrev g (l : List (Int × Int)) (i : Nat) : Int × Int := l.getD i (0, 0)
def leW (x y : Int × Int) : Prop := ¬ ltW y x
theorem leW.trans {x y z : Int × Int} (h : leW x y) (k : leW y z) : leW x z := by unfold leW ltW at *; omega
theorem leW.refl (x : Int × Int) : leW x x := by unfold leW ltW; omega
theorem leW.of_lt {x y : Int × Int} (h : ltW x y) : leW x y := by unfold leW; unfold ltW at *; omega
theorem leW.snd {x y : Int × Int} (h : leW x y) : x.2 ≤ y.2 := by unfold leW ltW at h; omega
theorem g_at {l : List (Int × Int)} {i : Nat} (h : i < l.length) : l[i]? = some (g l i) := by
  rw [g, List.getD_eq_getElem?_getD, List.getElem?_eq_getElem h]; rfl
theorem g_set {l : List (Int × Int)} {i : Nat} (x : Int × Int) (k : Nat) (h : i < l.length) : g (l.set i x) k = if k = i then x else g l k := by
  rw [g, g, List.getD_eq_getElem?_getD, List.getD_eq_getElem?_getD, List.getElem?_set]
  by_cases e : i = k
  · subst e; simp [h]
  · rw [if_neg e, if_neg (Ne.symm e)]
def swapW (l : List (Int × Int)) (i k : Nat) : List (Int × Int) := (l.set i (g l k)).set k (g l i)
theorem swapW_length (l : List (Int × Int)) (i k : Nat) : (swapW l i k).length = l.length := by simp [swapW]
theorem g_swap {l : List (Int × Int)} {i k : Nat} (hi : i < l.length) (hk : k < l.length) (m : Nat) : g (swapW l i k) m = if m = k then g l i else if m = i then g l k else g l m := by
  unfold swapW
  rw [g_set _ _ (by simpa using hk), g_set _ _ hi]
theorem swapW_perm {l : List (Int × Int)} {i k : Nat} (hi : i < l.length) (hk : k < l.length) : (swapW l i k).Perm l := by
  unfold swapW
  have e1 : g l k = l[k] := by rw [g, List.getD_eq_getElem?_getD, List.getElem?_eq_getElem hk]; rfl
  have e2 : g l i = l[i] := by rw [g, List.getD_eq_getElem?_getD, List.getElem?_eq_getElem hi]; rfl
  rw [e1, e2]
  exact List.set_set_perm hi hk

/-- The first n are a heap. -/
def IsHeap (l : List (Int × Int)) (n : Nat) : Prop := ∀ k, 0 < k → k < n → leW (g l ((k - 1) / 2)) (g l k)
def UpInv (l : List (Int × Int)) (j : Nat) : Prop := (∀ k, 0 < k → k < l.length → k ≠ j → leW (g l ((k - 1) / 2)) (g l k)) ∧ (0 < j → ∀ c, 0 < c → c < l.length → (c - 1) / 2 = j → leW (g l ((j - 1) / 2)) (g l c))
theorem UpInv.stop {l : List (Int × Int)} {j : Nat} (h : UpInv l j) (hj : j = 0 ∨ leW (g l ((j - 1) / 2)) (g l j)) : IsHeap l l.length := by
  intro k h0 hk
  by_cases e : k = j
  · subst e
    rcases hj with hj | hj
    · omega
    · exact hj
  · exact h.1 k h0 hk e
theorem UpInv.step {l : List (Int × Int)} {j : Nat} (h : UpInv l j) (hj : 0 < j) (hl : j < l.length) (hlt : ltW (g l j) (g l ((j - 1) / 2))) : UpInv (swapW l ((j - 1) / 2) j) ((j - 1) / 2) := by
  obtain ⟨i, hi⟩ : ∃ i, i = (j - 1) / 2 := ⟨_, rfl⟩
  rw [← hi] at hlt ⊢
  have hij : i < j := by omega
  have G := fun m => g_swap (l := l) (i := i) (k := j) (by omega) hl m
  refine ⟨fun k h0 hk hki => ?_, fun hi0 c h0 hc hci => ?_⟩
  · rw [swapW_length] at hk
    rw [G, G]
    by_cases e1 : k = j
    · subst e1
      rw [if_pos rfl, ← hi, if_neg (by omega), if_pos rfl]
      exact leW.of_lt hlt
    · rw [if_neg e1, if_neg hki]
      by_cases e2 : (k - 1) / 2 = j
      · rw [if_pos e2, hi]
        exact h.2 hj k h0 hk e2
      · rw [if_neg e2]
        by_cases e3 : (k - 1) / 2 = i
        · rw [if_pos e3]
          have := h.1 k h0 hk e1
          rw [e3] at this
          exact (leW.of_lt hlt).trans this
        · rw [if_neg e3]
          exact h.1 k h0 hk e1
  · rw [swapW_length] at hc
    have hpi : (i - 1) / 2 < i := by omega
    have hedge := h.1 i hi0 (by omega) (by omega)
    rw [G, G, if_neg (by omega), if_neg (by omega)]
    by_cases e1 : c = j
    · rw [if_pos e1]; exact hedge
    · rw [if_neg e1, if_neg (by omega)]
      have := h.1 c h0 hc e1
      rw [hci] at this
      exact hedge.trans this
def DownInv (l : List (Int × Int)) (n i : Nat) : Prop := (∀ k, 0 < k → k < n → (k - 1) / 2 ≠ i → leW (g l ((k - 1) / 2)) (g l k)) ∧ (0 < i → ∀ c, 0 < c → c < n → (c - 1) / 2 = i → leW (g l ((i - 1) / 2)) (g l c))
/-- i has no child, or its least child j is no less. -/
theorem DownInv.stop {l : List (Int × Int)} {n i : Nat} (h : DownInv l n i) (hs : ∀ c, 0 < c → c < n → (c - 1) / 2 = i → leW (g l i) (g l c)) : IsHeap l n := by
  intro k h0 hk
  by_cases e : (k - 1) / 2 = i
  · rw [e]; exact hs k h0 hk e
  · exact h.1 k h0 hk e
theorem DownInv.step {l : List (Int × Int)} {n i j : Nat} (h : DownInv l n i) (hn : n ≤ l.length) (h0 : 0 < j) (hj : j < n) (hp : (j - 1) / 2 = i) (hlt : ltW (g l j) (g l i)) (hmin : ∀ c, 0 < c → c < n → (c - 1) / 2 = i → leW (g l j) (g l c)) : DownInv (swapW l i j) n j := by
  have hij : i < j := by omega
  have G := fun m => g_swap (l := l) (i := i) (k := j) (by omega) (by omega) m
  refine ⟨fun k h1 hk hki => ?_, fun hi0 c h1 hc hci => ?_⟩
  · rw [G, G, if_neg hki]
    by_cases e1 : (k - 1) / 2 = i
    · rw [if_pos e1]
      by_cases e2 : k = j
      · rw [if_pos e2]; exact leW.of_lt hlt
      · rw [if_neg e2, if_neg (by omega)]; exact hmin k h1 hk e1
    · rw [if_neg e1]
      by_cases e2 : k = j
      · omega
      · rw [if_neg e2]
        by_cases e3 : k = i
        · rw [if_pos e3]
          subst e3
          exact h.2 h1 j h0 hj hp
        · rw [if_neg e3]; exact h.1 k h1 hk e1
  · rw [G, G, hp, if_neg (by omega), if_pos rfl, if_neg (by omega), if_neg (by omega)]
    have := h.1 c h1 hc (by omega)
    rw [hci] at this
    exact this
theorem IsHeap.root {l : List (Int × Int)} {n : Nat} (h : IsHeap l n) : ∀ k, k < n → leW (g l 0) (g l k) := by
  intro k
  induction k using Nat.strongRecOn with
  | ind k ih =>
    intro hk
    by_cases h0 : k = 0
    · subst h0; exact leW.refl _
    · exact (ih ((k - 1) / 2) (by omega) (by omega)).trans (h k (by omega) hk)
end Go.Proofs.Ytffeidjalphemaa
