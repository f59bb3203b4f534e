/- Why what Make picks is fair. -/
import Derived.Test.YtffeidjalphemaaLong
namespace Go.Proofs.Ytffeidjalphemaa
open Go.RowKit

/-- How many of the first n have it. -/
def cnt (F : Nat → Bool) : Nat → Nat
  | 0 => 0
  | n + 1 => cnt F n + (if F n then 1 else 0)
theorem cnt_le (F : Nat → Bool) (n : Nat) : cnt F n ≤ n := by
  induction n with
  | zero => exact Nat.le_refl _
  | succ n ih => unfold cnt; split <;> omega
theorem cnt_congr {F G : Nat → Bool} {n : Nat} (h : ∀ t, t < n → F t = G t) : cnt F n = cnt G n := by
  induction n with
  | zero => rfl
  | succ n ih => unfold cnt; rw [ih fun t ht => h t (by omega), h n (by omega)]
theorem cnt_mono {F G : Nat → Bool} {n : Nat} (h : ∀ t, t < n → F t = true → G t = true) : cnt F n ≤ cnt G n := by
  induction n with
  | zero => exact Nat.le_refl _
  | succ n ih =>
    unfold cnt
    have := ih fun t ht => h t (by omega)
    have h2 := h n (by omega)
    by_cases e : F n = true
    · rw [if_pos e, if_pos (h2 e)]; omega
    · rw [if_neg e]; omega
theorem cnt_zero {F : Nat → Bool} {n : Nat} (h : ∀ t, t < n → F t = false) : cnt F n = 0 := by
  induction n with
  | zero => rfl
  | succ n ih => unfold cnt; rw [ih fun t ht => h t (by omega), h n (by omega)]; rfl
theorem cnt_split {F : Nat → Bool} {k n : Nat} (hk : k < n) : cnt F n = cnt (fun t => decide (t ≠ k) && F t) n + (if F k then 1 else 0) := by
  induction n with
  | zero => omega
  | succ n ih =>
    unfold cnt
    by_cases e : k = n
    · subst e
      rw [cnt_congr (F := F) (G := fun t => decide (t ≠ k) && F t) fun t ht => by simp; intro; omega]
      simp
    · rw [ih (by omega)]
      have : decide (n ≠ k) = true := by simp; omega
      simp only [this, Bool.true_and]
      omega
theorem cnt_qto (p : Int × Int → Bool) (pt : List Int) (but : Int) (n : Nat) : (qto pt but n).countP p = cnt (fun t => decide ((t : Int) ≠ but) && p ((t : Int), pt.getD t 0)) n := by
  induction n with
  | zero => rfl
  | succ n ih =>
    unfold qto cnt
    by_cases e : (n : Int) = but
    · rw [if_pos e, ih]; simp [e]
    · rw [if_neg e, List.countP_append, ih]; simp [e, List.countP_cons]
/-- The others can all wait: of a thread k. -/
theorem canP_iff (pt : List Int) (n k : Nat) : CanP (qto pt (k : Int) n) ↔ ∀ m : Nat, cnt (fun t => decide (t ≠ k) && decide (pt.getD t 0 - 1 < (m : Int))) n ≤ m := by
  have e : ∀ m : Nat, (qto pt (k : Int) n).countP (under m) = cnt (fun t => decide (t ≠ k) && decide (pt.getD t 0 - 1 < (m : Int))) n := fun m => by
    rw [cnt_qto]
    refine cnt_congr fun t _ => ?_
    simp only [under]
    congr 1
    simp only [ne_eq, decide_not, Int.natCast_inj]
  constructor
  · intro h m
    rw [← e]; exact h.all m
  · intro h m _
    rw [e]; exact h m
/-- No more threads are out of patience within m than can be picked till then. -/
def Hall (pt : List Int) (n : Nat) : Prop := ∀ m : Nat, cnt (fun t => decide (pt.getD t 0 < (m : Int))) n ≤ m
theorem Hall.nonneg {pt : List Int} {n t : Nat} (h : Hall pt n) (ht : t < n) : 0 ≤ pt.getD t 0 := by
  have h0 := h 0
  rw [cnt_split ht] at h0
  by_cases e : pt.getD t 0 < ((0 : Nat) : Int)
  · rw [if_pos (by simpa using e)] at h0; omega
  · omega
theorem Hall.min {pt : List Int} {n : Nat} (h : Hall pt n) (hn : 0 < n) : CanP (qto pt (minAt pt n : Int) n) := by
  rw [canP_iff]
  intro m
  have hm := minAt_lt pt hn
  have h1 := h (m + 1)
  have e : cnt (fun t => decide (t ≠ minAt pt n) && decide (pt.getD t 0 - 1 < (m : Int))) n = cnt (fun t => decide (t ≠ minAt pt n) && decide (pt.getD t 0 < ((m + 1 : Nat) : Int))) n := cnt_congr fun t _ => by
    congr 1
    simp only [decide_eq_decide]
    omega
  rw [e]
  rw [cnt_split hm] at h1
  by_cases hlt : pt.getD (minAt pt n) 0 < ((m + 1 : Nat) : Int)
  · rw [if_pos (by simpa using hlt)] at h1; omega
  · rw [cnt_zero fun t ht => ?_]
    · omega
    · have := (minAt_le pt ht).1
      simp only [Bool.and_eq_false_imp, decide_eq_false_iff_not]
      intro _
      omega
theorem Hall.can {pt : List Int} {n : Nat} (h : Hall pt n) (hn : 0 < n) (w : Int) : CanP (qto pt (pickOf pt n w : Int) n) := by
  unfold pickOf
  split
  · assumption
  · exact h.min hn
theorem Hall.step {pt : List Int} {n k : Nat} {f : Int} (hc : CanP (qto pt (k : Int) n)) (hk : k < n) (hf : (n : Int) ≤ f) (hl : pt.length = n) : Hall (stepPt f pt k) n := by
  rw [canP_iff] at hc
  intro m
  by_cases hm : f ≤ m
  · have := cnt_le (fun t => decide ((stepPt f pt k).getD t 0 < (m : Int))) n
    omega
  · rw [cnt_split hk]
    have e1 : cnt (fun t => decide (t ≠ k) && decide ((stepPt f pt k).getD t 0 < (m : Int))) n = cnt (fun t => decide (t ≠ k) && decide (pt.getD t 0 - 1 < (m : Int))) n := cnt_congr fun t ht => by
      by_cases e : t = k
      · simp [e]
      · rw [stepPt_at _ (by omega), if_neg e]
    rw [e1, stepPt_at _ (by omega), if_pos rfl]
    have : decide (f - 1 < (m : Int)) = false := by simp; omega
    have := hc m
    simp only [*]
    simpa using this
theorem stM_hall (f : Int) (n : Nat) (hn : 0 < n) (hf : (n : Int) ≤ f) (ws : List Int) : Hall (stM f n ws).1 n := by
  refine stM_ind f n (fun ws s => Hall s.1 n) (fun m => ?_) (fun ws w ih => ?_) ws
  · by_cases hm : f - 1 < (m : Int)
    · have := cnt_le (fun t => decide ((List.replicate n (f - 1)).getD t 0 < (m : Int))) n
      simp only
      omega
    · rw [cnt_zero fun t ht => ?_]
      · omega
      · simp [List.getD_eq_getElem?_getD, ht]; omega
  · rw [stM_snoc]
    exact Hall.step (ih.can hn w) (pickOf_lt _ hn w) hf (stM_len f n ws).1
/-- A thread's patience says how long it has waited. -/
theorem stM_wait (f : Int) (n : Nat) (hn : 0 < n) (hf : (n : Int) ≤ f) (ws : List Int) : ∀ t, t < n → (stM f n ws).1.getD t 0 = f - 1 - ((wtL (t : Int) (stM f n ws).2).1 : Int) ∧ ((wtL (t : Int) (stM f n ws).2).2 : Int) ≤ f - 1 := by
  refine stM_ind f n (fun ws s => ∀ t, t < n → s.1.getD t 0 = f - 1 - ((wtL (t : Int) s.2).1 : Int) ∧ ((wtL (t : Int) s.2).2 : Int) ≤ f - 1) (fun t ht => ?_) (fun ws w ih t ht => ?_) ws
  · simp [List.getD_eq_getElem?_getD, ht, wtL]; omega
  · have hh := (stM_hall f n hn hf (ws ++ [w])).nonneg ht
    rw [stM_snoc] at hh ⊢
    have hi := ih t ht
    have hl := (stM_len f n ws).1
    simp only at hh ⊢
    rw [wtL_snoc]
    rw [stepPt_at _ (by omega)] at hh ⊢
    simp only [wtS]
    by_cases e : t = pickOf (stM f n ws).1 n w
    · rw [if_pos e] at hh ⊢
      rw [if_pos (by rw [e])]
      refine ⟨by omega, ?_⟩
      have := hi.2
      simp only [Nat.max_zero]; exact this
    · rw [if_neg e] at hh ⊢
      rw [if_neg (by omega)]
      have := hi.2
      have := hi.1
      omega
theorem stM_fair (f : Int) (n : Nat) (hn : 0 < n) (hf : (n : Int) ≤ f) (ws : List Int) : (longM (stM f n ws).2 n : Int) < f := by
  have key : ∀ k, k ≤ n → (longM (stM f n ws).2 k : Int) ≤ f - 1 := by
    intro k
    induction k with
    | zero => intro _; simp [longM]; omega
    | succ k ih =>
      intro hk
      have h1 := ih (by omega)
      have h2 := (stM_wait f n hn hf ws k (by omega)).2
      unfold longM
      omega
  have := key n (Nat.le_refl _)
  omega
/-- Each pick is a thread. -/
theorem stM_range (f : Int) (n : Nat) (hn : 0 < n) (ws : List Int) : ∀ x ∈ (stM f n ws).2, 0 ≤ x ∧ x < n := by
  refine stM_ind f n (fun ws s => ∀ x ∈ s.2, 0 ≤ x ∧ x < n) (by simp) (fun ws w ih => ?_) ws
  rw [stM_snoc]
  intro x hx
  rcases List.mem_append.1 hx with hx | hx
  · exact ih x hx
  · simp at hx
    have := pickOf_lt (stM f n ws).1 hn w
    omega
end Go.Proofs.Ytffeidjalphemaa
