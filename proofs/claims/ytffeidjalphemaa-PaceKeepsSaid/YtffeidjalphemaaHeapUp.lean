/- container/heap's up, down, Push and Pop over waiters. -/
import Derived.Test.YtffeidjalphemaaHeapLaw
namespace Go.Proofs.Ytffeidjalphemaa
open Go.RowKit

/-- What an iterated call leaves. -/
theorem HP.len {w : World} {H p : Nat} {l : List (Int × Int)} (h : HP w H p l) : p < w.heap.size := by
  obtain ⟨r, cap, h1, h2, h3, hb, ho⟩ := h; exact hb.lt
theorem hless (r cap : Nat) (l : List (Int × Int)) (i k : Nat) (w : World) (ho : w.ownsRow 0 38 2 (.slice (some ⟨r, 0, none⟩) l.length cap) l.length (cellsOf l)) (hi : i < l.length) (hk : k < l.length) :
    Calls Try.prog 42 #[.slice (some ⟨r, 0, none⟩) l.length cap, .int .i64 i, .int .i64 k] w fun e w' => e = .returned (.bool (decide (ltW (g l i) (g l k)))) ∧ Mod nowhere w w' :=
  wless_calls r l.length cap i k (g l i) (g l k) w hi hk ((ho.cellAt (i * 2) (by omega)).trans (cellsOf_at (g_at hi)).1) ((ho.cellAt (i * 2 + 1) (by omega)).trans (cellsOf_at (g_at hi)).2) ((ho.cellAt (k * 2) (by omega)).trans (cellsOf_at (g_at hk)).1) ((ho.cellAt (k * 2 + 1) (by omega)).trans (cellsOf_at (g_at hk)).2)
theorem hswap (r cap : Nat) (l : List (Int × Int)) (i k : Nat) (w : World) (ho : w.ownsRow 0 38 2 (.slice (some ⟨r, 0, none⟩) l.length cap) l.length (cellsOf l)) (hi : i < l.length) (hk : k < l.length) :
    Calls Try.prog 45 #[.slice (some ⟨r, 0, none⟩) l.length cap, .int .i64 i, .int .i64 k] w fun e w' => e = .returned (.tuple #[]) ∧ w'.ownsRow 0 38 2 (.slice (some ⟨r, 0, none⟩) l.length cap) l.length (cellsOf (swapW l i k)) ∧ Mod (· = r) w w' :=
  wswap_calls r l.length cap i k l (g l i) (g l k) w rfl hi hk (g_at hi) (g_at hk) ho
set_option maxRecDepth 100000 in
set_option maxHeartbeats 2000000 in
theorem up_calls (H p j0 : Nat) (l0 : List (Int × Int)) (w : World) (h : HP w H p l0) (hl : l0.length ≤ 1000) (hj0 : j0 < l0.length) (hU0 : UpInv l0 j0) :
    Calls Try.prog 24 #[hptr p, .int .i64 j0] w fun e w' => e = .returned (.tuple #[]) ∧ (∃ l', HP w' H p l' ∧ l'.Perm l0 ∧ IsHeap l' l'.length) ∧ Mod (from_ H) w w' := by
  go_enter Try.func24, Try.ntmps24
  go_wp2_with fail
  go_loopw [1, 4] (fun s1 _ wx => ∃ (j : Nat) (l : List (Int × Int)), s1 = .int .i64 j ∧ j < l.length ∧ HP wx H p l ∧ l.Perm l0 ∧ UpInv l j ∧ Mod (from_ H) w wx)
    (fun s1 _ _ => (intOf s1).toNat)
  case atStart => exact ⟨j0, l0, rfl, hj0, h, .refl _, hU0, Mod.refl _ _⟩
  case round =>
    obtain ⟨j, l, rfl, hj, hh, hperm, hU, hmr⟩ := hrel
    have hlen : l.length ≤ 1000 := by rw [hperm.length_eq]; exact hl
    obtain ⟨r, cap, h1, h2, h3, hb, ho⟩ := hh
    have c0 : wr.cell? ⟨p, 0, none⟩ = some (.slice (some ⟨r, 0, none⟩) l.length cap) := (hb.cell 0).trans rfl
    by_cases h0 : j = 0
    · subst h0
      have HH := hide (hU.stop (.inl rfl))
      clear hU
      go_wp2
      go_end0
      exact ⟨rfl, ⟨l, ⟨r, cap, h1, h2, h3, hb, ho⟩, hperm, HH.out⟩, hmr⟩
    · obtain ⟨i, hi⟩ : ∃ i, i = (j - 1) / 2 := ⟨_, rfl⟩
      have hij : i < j := by omega
      have hd : ((j : Int) - 1).tdiv 2 = (i : Int) := by rw [Int.tdiv_eq_ediv_of_nonneg (by omega)]; omega
      have hne : ((i : Int) == (j : Int)) = false := by simp; omega
      have ml := m_less p _ wr c0
      have HU := hide hU
      have HI := hide hi
      clear hU hi
      go_wp2_with fail
      by_cases hlt : ltW (g l j) (g l i)
      · (with_reducible refine (hless r cap l j i wr ho hj (by omega)).mono ?_)
        rintro e w5 ⟨rfl, hm5⟩
        rw [decide_eq_true hlt]
        have c5 : w5.cell? ⟨p, 0, none⟩ = some (.slice (some ⟨r, 0, none⟩) l.length cap) := (hm5.cell 0 hb.lt id).trans c0
        have ms := m_swap p _ w5 c5
        have HLT := hide hlt
        clear hlt
        go_wp2_with fail
        (with_reducible refine (hswap r cap l i j w5 (owns_keep0 ho hm5) (by omega) hj).mono ?_)
        rintro e w6 ⟨rfl, ho6, hm6⟩
        go_wp2
        have hlen6 := swapW_length l i j
        refine ⟨⟨i, swapW l i j, rfl, by omega, ⟨r, cap, h1, h2, h3, ?_, ?_⟩, (swapW_perm (by omega) hj).trans hperm, ?_, ?_⟩, ?_⟩
        · rw [hlen6]; exact Blk.keep (hb.keep0 hm5) hm6 (Ne.symm h3)
        · rw [hlen6]; exact ho6
        · have := HU.out.step (by omega) hj (by rw [← HI.out]; exact HLT.out)
          rw [← HI.out] at this
          exact this
        · exact (hmr.call0 hm5).call hm6 (by rintro b rfl; exact .inl h2)
        · simp [intOf] <;> omega
      · (with_reducible refine (hless r cap l j i wr ho hj (by omega)).mono ?_)
        rintro e w5 ⟨rfl, hm5⟩
        rw [decide_eq_false hlt]
        have HH := hide (HU.out.stop (.inr (by rw [← HI.out]; exact hlt)))
        clear hlt
        go_wp2
        go_end0
        exact ⟨rfl, ⟨l, HP.keep0 ⟨r, cap, h1, h2, h3, hb, ho⟩ hm5, hperm, HH.out⟩, hmr.call0 hm5⟩

theorem IsHeap.push {l : List (Int × Int)} (h : IsHeap l l.length) (x : Int × Int) : UpInv (l ++ [x]) l.length := by
  have e : ∀ k, k < l.length → g (l ++ [x]) k = g l k := fun k hk => by
    simp only [g, List.getD_eq_getElem?_getD]
    rw [List.getElem?_append_left hk]
  refine ⟨fun k h0 hk hki => ?_, fun hl c h0 hc hci => ?_⟩
  · simp at hk
    rw [e _ (by omega), e _ (by omega)]
    exact h k h0 (by omega)
  · simp at hc; omega
set_option maxRecDepth 100000 in
set_option maxHeartbeats 2000000 in
theorem hpush_calls (H p : Nat) (l : List (Int × Int)) (x : Int × Int) (w : World) (h : HP w H p l) (hl : l.length < 1000) (hH : H ≤ w.heap.size) (hh : IsHeap l l.length) :
    Calls Try.prog 23 #[hptr p, .iface 38 (.agg #[.int .i64 x.1, .int .i64 x.2])] w fun e w' => e = .returned (.tuple #[]) ∧ (∃ l', HP w' H p l' ∧ l'.Perm (l ++ [x]) ∧ IsHeap l' l'.length) ∧ Mod (from_ H) w w' := by
  have mp := m_push ⟨p, 0, none⟩
  go_enter Try.func23, Try.ntmps23
  go_wp2_with fail
  (with_reducible refine (wpush_calls H p l x w h (by omega) hH).mono ?_)
  rintro e w5 ⟨rfl, h5, hm5⟩
  have hlen : (l ++ [x]).length = l.length + 1 := by simp
  have h5' := h5
  obtain ⟨r, cap, h1, h2, h3, hb, ho⟩ := h5
  rw [hlen] at hb
  have c0 : w5.cell? ⟨p, 0, none⟩ = some (.slice (some ⟨r, 0, none⟩) (l.length + 1) cap) := (hb.cell 0).trans rfl
  have ml := m_len p _ w5 c0
  go_wp2_with fail
  (with_reducible refine (wlen_calls (some ⟨r, 0, none⟩) (l.length + 1) cap w5).mono ?_)
  rintro e w6 ⟨rfl, hm6⟩
  go_wp2_with fail
  (with_reducible refine (up_calls H p l.length (l ++ [x]) w6 (h5'.keep0 hm6) (by omega) (by omega) (hh.push x)).mono ?_)
  rintro e w7 ⟨rfl, hq, hm7⟩
  go_wp2
  go_end0
  exact ⟨rfl, hq, (hm5.call0 hm6).trans hm7⟩
end Go.Proofs.Ytffeidjalphemaa
