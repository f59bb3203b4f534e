/- The longest wait, said by stretches of picks; the document's Longest, Fair, walked. -/
import Derived.Test.YtffeidjalphemaaPaceT
namespace Go.Proofs.Ytffeidjalphemaa
open Go.RowKit

/-- t isn't among the d picks from i on. -/
def NoT (l : List Int) (t : Int) (i d : Nat) : Prop := i + d ≤ l.length ∧ ∀ j, i ≤ j → j < i + d → l.getD j 0 ≠ t
theorem getD_left {l : List Int} {x : Int} {j : Nat} (h : j < l.length) : (l ++ [x]).getD j 0 = l.getD j 0 := by
  simp only [List.getD_eq_getElem?_getD]; rw [List.getElem?_append_left h]
theorem getD_last {l : List Int} {x : Int} : (l ++ [x]).getD l.length 0 = x := by simp [List.getD_eq_getElem?_getD]
theorem NoT.left {l : List Int} {t : Int} {i d : Nat} {x : Int} (h : NoT l t i d) : NoT (l ++ [x]) t i d := by
  refine ⟨by have := h.1; simp; omega, fun j h1 h2 => ?_⟩
  rw [getD_left (by have := h.1; omega)]; exact h.2 j h1 h2
theorem NoT.of_left {l : List Int} {t : Int} {i d : Nat} {x : Int} (h : NoT (l ++ [x]) t i d) (hd : i + d ≤ l.length) : NoT l t i d :=
  ⟨hd, fun j h1 h2 => by have := h.2 j h1 h2; rwa [getD_left (by omega)] at this⟩
theorem wtL_char (t : Int) (l : List Int) : NoT l t (l.length - (wtL t l).1) (wtL t l).1 ∧ (∀ d, d ≤ l.length → NoT l t (l.length - d) d → d ≤ (wtL t l).1) ∧ ∀ d, d ≤ (wtL t l).2 ↔ ∃ i, NoT l t i d := by
  refine list_snoc_ind (fun l => NoT l t (l.length - (wtL t l).1) (wtL t l).1 ∧ (∀ d, d ≤ l.length → NoT l t (l.length - d) d → d ≤ (wtL t l).1) ∧ ∀ d, d ≤ (wtL t l).2 ↔ ∃ i, NoT l t i d) ?_ (fun l x ih => ?_) l
  · refine ⟨⟨by simp [wtL], fun j h1 h2 => by simp [wtL] at h2⟩, fun d h _ => by simp at h; omega, fun d => ⟨fun h => ?_, fun ⟨i, h⟩ => ?_⟩⟩
    · simp [wtL] at h; subst h; exact ⟨0, by simp, fun j h1 h2 => by omega⟩
    · have := h.1; simp at this; simp [wtL]; omega
  · obtain ⟨h1, h2, h3⟩ := ih
    have hle := (wtL_le t l).1
    rw [wtL_snoc]
    have hlen : (l ++ [x]).length = l.length + 1 := by simp
    have A1 : NoT (l ++ [x]) t ((l ++ [x]).length - (wtS t (wtL t l) x).1) (wtS t (wtL t l) x).1 := by
      rw [hlen]
      simp only [wtS]
      by_cases e : x = t
      · rw [if_pos e]; exact ⟨by omega, fun j a b => by omega⟩
      · rw [if_neg e]
        refine ⟨by omega, fun j a b => ?_⟩
        by_cases ej : j < l.length
        · rw [getD_left ej]; exact h1.2 j (by omega) (by omega)
        · have : j = l.length := by omega
          subst this; rw [getD_last]; exact e
    have A2 : ∀ d, d ≤ (l ++ [x]).length → NoT (l ++ [x]) t ((l ++ [x]).length - d) d → d ≤ (wtS t (wtL t l) x).1 := by
      rw [hlen]
      intro d hd hn
      by_cases d0 : d = 0
      · omega
      have hx : x ≠ t := by
        have := hn.2 l.length (by omega) (by omega)
        rwa [getD_last] at this
      simp only [wtS]
      rw [if_neg hx]
      have := h2 (d - 1) (by omega) ⟨by omega, fun j a b => by
        have := hn.2 j (by omega) (by omega)
        rwa [getD_left (by omega)] at this⟩
      omega
    refine ⟨A1, A2, fun d => ?_⟩
    have hm : (wtS t (wtL t l) x).2 = max (wtL t l).2 (wtS t (wtL t l) x).1 := rfl
    rw [hm]
    constructor
    · intro h
      by_cases hd : d ≤ (wtL t l).2
      · obtain ⟨i, hi⟩ := (h3 d).1 hd
        exact ⟨i, hi.left⟩
      · have hd2 : d ≤ (wtS t (wtL t l) x).1 := by omega
        refine ⟨(l ++ [x]).length - d, ?_, fun j a b => A1.2 j (by omega) (by have := A1.1; omega)⟩
        have := A1.1; omega
    · rintro ⟨i, hi⟩
      by_cases he : i + d ≤ l.length
      · have := (h3 d).2 ⟨i, hi.of_left he⟩; omega
      · have hid := hi.1
        rw [hlen] at hid
        have := A2 d (by omega) (by rw [hlen, show l.length + 1 - d = i by omega]; exact hi)
        omega
theorem longM_char (l : List Int) (n : Nat) (d : Nat) : d ≤ longM l n ↔ d = 0 ∨ ∃ t : Nat, t < n ∧ ∃ i, NoT l (t : Int) i d := by
  induction n with
  | zero =>
    simp only [longM]
    constructor
    · intro h; left; omega
    · rintro (h | ⟨t, h, -⟩) <;> omega
  | succ n ih =>
    have h3 := (wtL_char (n : Int) l).2.2 d
    have hm : d ≤ longM l (n + 1) ↔ d ≤ longM l n ∨ d ≤ (wtL (n : Int) l).2 := by rw [show longM l (n + 1) = max (longM l n) (wtL (n : Int) l).2 from rfl]; omega
    rw [hm, ih, h3]
    constructor
    · rintro ((h | ⟨t, ht, h⟩) | h)
      · exact .inl h
      · exact .inr ⟨t, by omega, h⟩
      · exact .inr ⟨n, by omega, h⟩
    · rintro (h | ⟨t, ht, h⟩)
      · exact .inl (.inl h)
      · by_cases e : t = n
        · subst e; exact .inr h
        · exact .inl (.inr ⟨t, by omega, h⟩)
/-- The longest stretch, of the first t threads, and of thread t from the first i picks on. -/
def RL (l : List Int) (t i M : Nat) : Prop := ∀ d, d ≤ M ↔ d = 0 ∨ (∃ t' : Nat, t' < t ∧ ∃ i', NoT l (t' : Int) i' d) ∨ ∃ i', i' < i ∧ NoT l (t : Int) i' d
theorem RL.zero (l : List Int) : RL l 0 0 0 := fun d => ⟨fun h => .inl (by omega), by rintro (h | ⟨t, h, -⟩ | ⟨i, h, -⟩) <;> omega⟩
theorem RL.next {l : List Int} {t M : Nat} (H0 : RL l t l.length M) : RL l (t + 1) 0 M := fun d => by
  rw [H0 d]
  constructor
  · rintro (h | ⟨t', ht, h⟩ | ⟨i, hi, h⟩)
    · exact .inl h
    · exact .inr (.inl ⟨t', by omega, h⟩)
    · exact .inr (.inl ⟨t, by omega, i, h⟩)
  · rintro (h | ⟨t', ht, i, h⟩ | ⟨i, hi, h⟩)
    · exact .inl h
    · by_cases e : t' = t
      · subst e
        by_cases hi : i < l.length
        · exact .inr (.inr ⟨i, hi, h⟩)
        · have := h.1; exact .inl (by omega)
      · exact .inr (.inl ⟨t', by omega, i, h⟩)
    · omega
theorem RL.done {l : List Int} {n M : Nat} (h : RL l n 0 M) : M = longM l n := by
  have key : ∀ d, d ≤ M ↔ d ≤ longM l n := fun d => by
    rw [h d, longM_char]
    constructor
    · rintro (h | h | ⟨i, hi, h⟩)
      · exact .inl h
      · exact .inr h
      · omega
    · rintro (h | h)
      · exact .inl h
      · exact .inr (.inl h)
  exact Nat.le_antisymm ((key M).1 (Nat.le_refl _)) ((key _).2 (Nat.le_refl _))
theorem RL.step {l : List Int} {t i k M : Nat} (H0 : RL l t i M) (hk : i ≤ k) (hn : NoT l (t : Int) i (k - i)) (hmax : k = l.length ∨ l.getD k 0 = (t : Int)) : RL l t (i + 1) (max M (k - i)) := fun d => by
  have e : d ≤ max M (k - i) ↔ d ≤ M ∨ d ≤ k - i := by omega
  have up : ∀ d, NoT l (t : Int) i d → d ≤ k - i := fun d hd => by
    rcases hmax with hm | hm
    · have := hd.1; omega
    · by_cases hh : d ≤ k - i
      · exact hh
      · exact absurd hm (hd.2 k hk (by omega))
  rw [e, H0 d]
  constructor
  · rintro ((h | h | ⟨i', hi, h⟩) | h)
    · exact .inl h
    · exact .inr (.inl h)
    · exact .inr (.inr ⟨i', by omega, h⟩)
    · exact .inr (.inr ⟨i, by omega, by have := hn.1; omega, fun j a b => hn.2 j a (by omega)⟩)
  · rintro (h | h | ⟨i', hi, h⟩)
    · exact .inl (.inl h)
    · exact .inl (.inr (.inl h))
    · by_cases e : i' = i
      · subst e; exact .inr (up d h)
      · exact .inl (.inr (.inr ⟨i', by omega, h⟩))
theorem NoT.grow {l : List Int} {t : Int} {i k : Nat} (h : NoT l t i (k - i)) (hik : i ≤ k) (hk : k < l.length) (hx : l.getD k 0 ≠ t) : NoT l t i (k + 1 - i) :=
  ⟨by omega, fun j a b => by
    by_cases e : j = k
    · subst e; exact hx
    · exact h.2 j a (by omega)⟩

set_option maxRecDepth 100000 in
set_option maxHeartbeats 4000000 in
theorem reflong_calls (A : Option Addr) (m c B n : Nat) (l : List Int) (w : World) (hr : Reads w B 1 A m (l.map (Value.int .i64))) (hB : B ≤ w.heap.size) (hl : l.length = m) (hm : m ≤ 1000) (h6 : n ≤ 6) :
    Calls Try.prog 12 #[.slice A m c, .int .i64 n] w fun e w' => e = .returned (.int .i64 (longM l n)) ∧ Mod nowhere w w' := by
  have HR := hide hr
  have HL := hide hl
  clear hr hl
  go_enter Try.func12, Try.ntmps12
  go_wp2_with fail
  go_loopw [5, 6, 7, 8] (fun s5 s6 _ _ wx => ∃ (t M : Nat), s6 = .int .i64 t ∧ t ≤ n ∧ s5 = .int .i64 M ∧ M ≤ m ∧ RL l t 0 M ∧ Mod nowhere w wx) (fun _ s6 _ _ _ => (300 - (intOf s6)).toNat)
  case atStart => exact ⟨0, 0, rfl, Nat.zero_le _, rfl, Nat.zero_le _, RL.zero l, Mod.refl _ _⟩
  case round =>
    obtain ⟨t, M, rfl, ht, rfl, hM, hRL, hmr⟩ := hrel
    have HRL := hide hRL
    clear hRL
    by_cases hlt : t < n
    · have hlt' : (t : Int) < (n : Int) := by omega
      go_wp2_with fail
      go_loopw [5, 7, 8] (fun s5 s7 _ wx => ∃ (i M : Nat), s7 = .int .i64 i ∧ i ≤ m ∧ s5 = .int .i64 M ∧ M ≤ m ∧ RL l t i M ∧ Mod nowhere w wx) (fun _ s7 _ _ => (2000 - (intOf s7)).toNat)
      case atStart => exact ⟨0, M, rfl, Nat.zero_le _, rfl, hM, HRL.out, hmr⟩
      case round =>
        clear hmr HRL hM
        obtain ⟨i, M, rfl, hi, rfl, hM, hRL, hmr⟩ := hrel
        have HRL := hide hRL
        clear hRL
        by_cases him : i < m
        · have him' : (i : Int) < (m : Int) := by omega
          go_wp2_with fail
          go_loopw [8] (fun s8 wx => ∃ (k : Nat), s8 = .int .i64 k ∧ i ≤ k ∧ k ≤ m ∧ NoT l (t : Int) i (k - i) ∧ Mod nowhere w wx) (fun s8 _ => (2000 - (intOf s8)).toNat)
          case atStart => exact ⟨i, rfl, Nat.le_refl _, hi, ⟨by rw [HL.out]; omega, fun j a b => by omega⟩, hmr⟩
          case round =>
            clear hmr
            obtain ⟨k, rfl, hik, hkm, hno, hmr⟩ := hrel
            have HNO := hide hno
            clear hno
            by_cases hk : k < m
            · have hk' : (k : Int) < (m : Int) := by omega
              obtain ⟨b, o, hAe, hb, hc⟩ := reads_cell HR.out hB (hmr.mono fun _ x => x.elim) hk
              subst hAe
              by_cases e : l.getD k 0 = (t : Int)
              · have HE := hide e
                rw [e] at hc
                clear e
                by_cases hgt : M < k - i
                · have hgt' : (M : Int) < (k : Int) - (i : Int) := by omega
                  go_wp2
                  go_roundw
                  case rel => exact ⟨i + 1, k - i, by go_num, by omega, by rw [show ((k - i : Nat) : Int) = (k : Int) - (i : Int) by omega], by omega, by have := HRL.out.step hik HNO.out (.inr HE.out); rwa [Nat.max_eq_right (by omega)] at this, hmr⟩
                  case measure => simp [intOf] <;> omega
                · have hgt' : ¬ (M : Int) < (k : Int) - (i : Int) := by omega
                  have hgt2 : k - i ≤ M := by omega
                  clear hgt
                  go_wp2
                  go_roundw
                  case rel => exact ⟨i + 1, M, by go_num, by omega, rfl, hM, by have := HRL.out.step hik HNO.out (.inr HE.out); rwa [Nat.max_eq_left hgt2] at this, hmr⟩
                  case measure => simp [intOf] <;> omega
              · have e' : (l.getD k 0 != (t : Int)) = true := bne_iff_ne.2 e
                have HE := hide e
                clear e
                generalize hgv : l.getD k 0 = gv at hc e' HE
                have HGV := hide hgv
                clear hgv
                go_wp2
                go_roundw
                case rel => exact ⟨k + 1, by go_num, by omega, by omega, HNO.out.grow hik (by rw [HL.out]; exact hk) (by rw [HGV.out]; exact HE.out), hmr⟩
                case measure => simp [intOf] <;> omega
            · obtain rfl : k = m := by omega
              clear hk
              by_cases hgt : M < k - i
              · have hgt' : (M : Int) < (k : Int) - (i : Int) := by omega
                go_wp2
                go_roundw
                case rel => exact ⟨i + 1, k - i, by go_num, by omega, by rw [show ((k - i : Nat) : Int) = (k : Int) - (i : Int) by omega], by omega, by have := HRL.out.step hik HNO.out (.inl HL.out.symm); rwa [Nat.max_eq_right (by omega)] at this, hmr⟩
                case measure => simp [intOf] <;> omega
              · have hgt' : ¬ (M : Int) < (k : Int) - (i : Int) := by omega
                have hgt2 : k - i ≤ M := by omega
                clear hgt
                go_wp2
                go_roundw
                case rel => exact ⟨i + 1, M, by go_num, by omega, rfl, hM, by have := HRL.out.step hik HNO.out (.inl HL.out.symm); rwa [Nat.max_eq_left hgt2] at this, hmr⟩
                case measure => simp [intOf] <;> omega
        · obtain rfl : m = i := by omega
          have hnx := HRL.out
          rw [← HL.out] at hnx
          have HNX := hide hnx.next
          clear hnx him
          go_wp2
          go_roundw
          case rel => exact ⟨t + 1, M, by go_num, by omega, rfl, hM, HNX.out, hmr⟩
          case measure => simp [intOf] <;> omega
    · obtain rfl : n = t := by omega
      have hd := HRL.out.done
      have HD := hide hd
      clear hd
      go_wp2
      go_ret
      exact ⟨by rw [← HD.out]; rfl, hmr⟩
end Go.Proofs.Ytffeidjalphemaa
