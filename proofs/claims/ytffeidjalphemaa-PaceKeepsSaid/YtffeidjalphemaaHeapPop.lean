/- container/heap's Pop over waiters. -/
import Derived.Test.YtffeidjalphemaaHeapDown
namespace Go.Proofs.Ytffeidjalphemaa
open Go.RowKit

/-- What Pop hands over: the least one; the others are a heap. -/
theorem heap_swap_down {l : List (Int × Int)} (h : IsHeap l l.length) (h0 : 0 < l.length) : DownInv (swapW l 0 (l.length - 1)) (l.length - 1) 0 := by
  have G := fun m => g_swap (l := l) (i := 0) (k := l.length - 1) h0 (by omega) m
  refine ⟨fun k h1 hk hki => ?_, fun hh => absurd hh (by omega)⟩
  rw [G, G, if_neg (by omega), if_neg (by omega), if_neg (by omega), if_neg (by omega)]
  exact h k h1 (by omega)
theorem list_last {l : List (Int × Int)} (h : 0 < l.length) : l = l.take (l.length - 1) ++ [g l (l.length - 1)] := by
  have e : l.take (l.length - 1 + 1) = l := List.take_of_length_le (by omega)
  rw [List.take_add_one, g_at (show l.length - 1 < l.length by omega)] at e
  exact e.symm
theorem g_take {l : List (Int × Int)} {m k : Nat} (h : k < m) : g (l.take m) k = g l k := by
  simp only [g, List.getD_eq_getElem?_getD]
  rw [List.getElem?_take, if_pos h]
set_option maxRecDepth 100000 in
set_option maxHeartbeats 2000000 in
theorem hpop_calls (H p : Nat) (l : List (Int × Int)) (w : World) (h : HP w H p l) (hl : l.length ≤ 1000) (h0 : 0 < l.length) (hh : IsHeap l l.length) :
    Calls Try.prog 19 #[hptr p] w fun e w' => ∃ x l', e = .returned (.iface 38 (.agg #[.int .i64 x.1, .int .i64 x.2])) ∧ HP w' H p l' ∧ (x :: l').Perm l ∧ IsHeap l' l'.length ∧ (∀ y ∈ l', leW x y) ∧ Mod (from_ H) w w' := by
  have hP := h
  obtain ⟨r, cap, h1, h2, h3, hb, ho⟩ := h
  have c0 : w.cell? ⟨p, 0, none⟩ = some (.slice (some ⟨r, 0, none⟩) l.length cap) := (hb.cell 0).trans rfl
  have ml := m_len p _ w c0
  go_enter Try.func19, Try.ntmps19
  go_wp2_with fail
  (with_reducible refine (wlen_calls (some ⟨r, 0, none⟩) l.length cap w).mono ?_)
  rintro e w5 ⟨rfl, hm5⟩
  clear ml
  have c5 : w5.cell? ⟨p, 0, none⟩ = some (.slice (some ⟨r, 0, none⟩) l.length cap) := (hm5.cell 0 hb.lt id).trans c0
  have ms := m_swap p _ w5 c5
  go_wp2_with fail
  (with_reducible refine (hswapZ r cap l 0 ((l.length : Int) - 1) 0 (l.length - 1) rfl (by omega) w5 (owns_keep0 ho hm5) h0 (by omega)).mono ?_)
  rintro e w6 ⟨rfl, ho6, hm6⟩
  clear ms
  have hlen6 := swapW_length l 0 (l.length - 1)
  have h6 : HP w6 H p (swapW l 0 (l.length - 1)) := ⟨r, cap, h1, h2, h3, by rw [hlen6]; exact Blk.keep (hb.keep0 hm5) hm6 (Ne.symm h3), by rw [hlen6]; exact ho6⟩
  have HD := hide (heap_swap_down hh h0)
  have hperm6 := swapW_perm (l := l) (i := 0) (k := l.length - 1) h0 (by omega)
  have hlast : g (swapW l 0 (l.length - 1)) (l.length - 1) = g l 0 := by rw [g_swap h0 (by omega), if_pos rfl]
  have hroot := hh.root
  obtain ⟨x0, hx0⟩ : ∃ x, x = g l 0 := ⟨_, rfl⟩
  rw [← hx0] at hlast
  simp only [← hx0] at hroot
  clear hx0
  generalize swapW l 0 (l.length - 1) = l6 at h6 HD hperm6 hlast hlen6
  have m06 : Mod (from_ H) w w6 := (hm5.mono (T := from_ H) fun _ x => x.elim).call hm6 (by rintro b rfl; exact .inl h2)
  clear hb ho c0 c5 ho6 hm5 hm6 hP
  go_wp2_with fail
  (with_reducible refine (down_callsZ H p 0 (l.length - 1) l6 w6 0 ((l.length : Int) - 1) rfl (by omega) h6 (by omega) (by omega) (by omega) HD.out).mono ?_)
  rintro e w7 ⟨⟨b7, rfl⟩, ⟨l7, h7, hperm7, hheap7, hfar7⟩, hm7⟩
  have hlen7 : l7.length = l.length := by rw [hperm7.length_eq, hlen6]
  have hx7 : g l7 (l7.length - 1) = x0 := by rw [hlen7, hfar7 _ (Nat.le_refl _), hlast]
  have hsplit := list_last (l := l7) (by omega)
  rw [hx7] at hsplit
  have mp := m_pop ⟨p, 0, none⟩
  have h7' : HP w7 H p (l7.take (l7.length - 1) ++ [x0]) := hsplit ▸ h7
  have HS := hide hsplit
  have HF := hide hfar7
  have HX := hide hx7
  have HL := hide hlast
  clear hsplit hfar7 hx7 hlast
  go_wp2_with fail
  (with_reducible refine (wpop_calls H p (l7.take (l7.length - 1)) x0 w7 h7' (by rw [List.length_take]; omega)).mono ?_)
  rintro e w8 ⟨rfl, h8, hm8⟩
  go_wp2
  go_ret
  have hpm : (x0 :: l7.take (l7.length - 1)).Perm l7 := by
    have := List.perm_append_singleton x0 (l7.take (l7.length - 1))
    rw [← HS.out] at this
    exact this.symm
  refine ⟨x0, l7.take (l7.length - 1), rfl, h8, (hpm.trans hperm7).trans hperm6, fun k k0 k1 => ?_, fun y hy => ?_, (m06.trans hm7).trans hm8⟩
  · rw [List.length_take] at k1
    rw [g_take (by omega), g_take (by omega)]
    exact hheap7 k k0 (by omega)
  · have hy2 : y ∈ l := ((hpm.trans hperm7).trans hperm6).mem_iff.1 (List.mem_cons_of_mem _ hy)
    obtain ⟨k, hk, rfl⟩ := List.getElem_of_mem hy2
    have := hroot k hk
    rwa [show g l k = l[k] by rw [g, List.getD_eq_getElem?_getD, List.getElem?_eq_getElem hk]; rfl] at this
end Go.Proofs.Ytffeidjalphemaa
