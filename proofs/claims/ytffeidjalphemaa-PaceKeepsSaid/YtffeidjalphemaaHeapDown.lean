/- container/heap's down and Pop over waiters. -/
import Derived.Test.YtffeidjalphemaaHeapUp
namespace Go.Proofs.Ytffeidjalphemaa
open Go.RowKit

def RetBool (e : Ending) : Prop := ∃ b, e = .returned (.bool b)
theorem hlessZ (r cap : Nat) (l : List (Int × Int)) (ix kx : Int) (i k : Nat) (hix : ix = i) (hkx : kx = k) (w : World) (ho : w.ownsRow 0 38 2 (.slice (some ⟨r, 0, none⟩) l.length cap) l.length (cellsOf l)) (hi : i < l.length) (hk : k < l.length) :
    Calls Try.prog 42 #[.slice (some ⟨r, 0, none⟩) l.length cap, .int .i64 ix, .int .i64 kx] w fun e w' => e = .returned (.bool (decide (ltW (g l i) (g l k)))) ∧ Mod nowhere w w' := by
  subst hix hkx; exact hless r cap l i k w ho hi hk
theorem hswapZ (r cap : Nat) (l : List (Int × Int)) (ix kx : Int) (i k : Nat) (hix : ix = i) (hkx : kx = k) (w : World) (ho : w.ownsRow 0 38 2 (.slice (some ⟨r, 0, none⟩) l.length cap) l.length (cellsOf l)) (hi : i < l.length) (hk : k < l.length) :
    Calls Try.prog 45 #[.slice (some ⟨r, 0, none⟩) l.length cap, .int .i64 ix, .int .i64 kx] w fun e w' => e = .returned (.tuple #[]) ∧ w'.ownsRow 0 38 2 (.slice (some ⟨r, 0, none⟩) l.length cap) l.length (cellsOf (swapW l i k)) ∧ Mod (· = r) w w' := by
  subst hix hkx; exact hswap r cap l i k w ho hi hk
set_option maxRecDepth 100000 in
set_option maxHeartbeats 4000000 in
theorem down_calls (H p i0 n : Nat) (l0 : List (Int × Int)) (w : World) (h : HP w H p l0) (hl : l0.length ≤ 1000) (hn : n ≤ l0.length) (hi0 : i0 ≤ n) (hD0 : DownInv l0 n i0) :
    Calls Try.prog 22 #[hptr p, .int .i64 i0, .int .i64 n] w fun e w' => RetBool e ∧ (∃ l', HP w' H p l' ∧ l'.Perm l0 ∧ IsHeap l' n ∧ ∀ k, n ≤ k → g l' k = g l0 k) ∧ Mod (from_ H) w w' := by
  go_enter Try.func22, Try.ntmps22
  go_wp2_with fail
  go_loopw [7, 8, 9, 10] (fun s7 _ _ _ wx => ∃ (i : Nat) (l : List (Int × Int)), s7 = .int .i64 i ∧ i ≤ n ∧ HP wx H p l ∧ l.Perm l0 ∧ DownInv l n i ∧ (∀ k, n ≤ k → g l k = g l0 k) ∧ Mod (from_ H) w wx)
    (fun s7 _ _ _ _ => (2000 - (intOf s7)).toNat)
  case atStart => exact ⟨i0, l0, rfl, hi0, h, .refl _, hD0, fun _ _ => rfl, Mod.refl _ _⟩
  case round =>
    obtain ⟨i, l, rfl, hin, hh, hperm, hD, hF, hmr⟩ := hrel
    have hlen : l.length = l0.length := hperm.length_eq
    obtain ⟨r, cap, h1, h2, h3, hb, ho⟩ := hh
    have c0 : wr.cell? ⟨p, 0, none⟩ = some (.slice (some ⟨r, 0, none⟩) l.length cap) := (hb.cell 0).trans rfl
    have HD := hide hD
    have HF := hide hF
    have HLEN := hide hlen
    have hn' : n ≤ l.length := by omega
    have hl' : l.length ≤ 1000 := by omega
    clear hD hF hlen
    by_cases g1 : 2 * i + 1 < n
    · by_cases g2 : 2 * i + 2 < n
      · have m1 := m_less p _ wr c0
        go_wp2_with fail
        (with_reducible refine (hlessZ r cap l (2 * (i : Int) + 1 + 1) (2 * (i : Int) + 1) (2 * i + 1 + 1) (2 * i + 1) (by omega) (by omega) wr ho (by omega) (by omega)).mono ?_)
        rintro e w6 ⟨rfl, hm6⟩
        have c6 : w6.cell? ⟨p, 0, none⟩ = some (.slice (some ⟨r, 0, none⟩) l.length cap) := (hm6.cell 0 hb.lt id).trans c0
        have ho6 := owns_keep0 ho hm6
        by_cases g3 : ltW (g l (2 * i + 1 + 1)) (g l (2 * i + 1))
        · rw [decide_eq_true g3]
          have HMIN := hide (show ∀ c, 0 < c → c < n → (c - 1) / 2 = i → leW (g l (2 * i + 1 + 1)) (g l c) from fun c a b d => by
            rcases (show c = 2 * i + 1 ∨ c = 2 * i + 1 + 1 by omega) with rfl | rfl
            · exact leW.of_lt g3
            · exact leW.refl _)
          clear g3
          have m2 := m_less p _ w6 c6
          go_wp2_with fail
          (with_reducible refine (hlessZ r cap l (2 * (i : Int) + 1 + 1) (i : Int) (2 * i + 1 + 1) i (by omega) rfl w6 ho6 (by omega) (by omega)).mono ?_)
          rintro e w7 ⟨rfl, hm7⟩
          have hmin : ∀ c, 0 < c → c < n → (c - 1) / 2 = i → leW (g l (2 * i + 1 + 1)) (g l c) := HMIN.out
          by_cases hlt : ltW (g l (2 * i + 1 + 1)) (g l i)
          · rw [decide_eq_true hlt]
            have hm07 : Mod nowhere wr w7 := hm6.trans hm7
            have c7 : w7.cell? ⟨p, 0, none⟩ = some (.slice (some ⟨r, 0, none⟩) l.length cap) := (hm07.cell 0 hb.lt id).trans c0
            have ms := m_swap p _ w7 c7
            have HH := hide (HD.out.step (by omega) (by omega) (by omega) (by omega) hlt hmin)
            clear hlt hmin
            go_wp2_with fail
            (with_reducible refine (hswapZ r cap l (i : Int) (2 * (i : Int) + 1 + 1) i (2 * i + 1 + 1) rfl (by omega) w7 (owns_keep0 ho hm07) (by omega) (by omega)).mono ?_)
            rintro e w8 ⟨rfl, ho8, hm8⟩
            go_wp2
            have hlen8 := swapW_length l i (2 * i + 1 + 1)
            refine ⟨⟨2 * i + 1 + 1, swapW l i (2 * i + 1 + 1), rfl, by omega, ⟨r, cap, h1, h2, h3, ?_, ?_⟩, (swapW_perm (by omega) (by omega)).trans hperm, HH.out, fun k hk => ?_, ?_⟩, ?_⟩
            · rw [hlen8]; exact Blk.keep (hb.keep0 hm07) hm8 (Ne.symm h3)
            · rw [hlen8]; exact ho8
            · rw [g_swap (by omega) (by omega), if_neg (by omega), if_neg (by omega)]; exact HF.out k hk
            · exact (hmr.call0 hm07).call hm8 (by rintro b rfl; exact .inl h2)
            · simp [intOf] <;> omega
          · rw [decide_eq_false hlt]
            have hm07 : Mod nowhere wr w7 := hm6.trans hm7
            have HH := hide (HD.out.stop fun c a b d => leW.trans (show leW (g l i) (g l (2 * i + 1 + 1)) from hlt) (hmin c a b d))
            clear hlt hmin
            go_wp2
            go_ret
            exact ⟨⟨_, rfl⟩, ⟨l, HP.keep0 ⟨r, cap, h1, h2, h3, hb, ho⟩ hm07, hperm, HH.out, HF.out⟩, hmr.call0 hm07⟩
        · rw [decide_eq_false g3]
          have HMIN := hide (show ∀ c, 0 < c → c < n → (c - 1) / 2 = i → leW (g l (2 * i + 1)) (g l c) from fun c a b d => by
            rcases (show c = 2 * i + 1 ∨ c = 2 * i + 1 + 1 by omega) with rfl | rfl
            · exact leW.refl _
            · exact g3)
          clear g3
          have m2 := m_less p _ w6 c6
          go_wp2_with fail
          (with_reducible refine (hlessZ r cap l (2 * (i : Int) + 1) (i : Int) (2 * i + 1) i (by omega) rfl w6 ho6 (by omega) (by omega)).mono ?_)
          rintro e w7 ⟨rfl, hm7⟩
          have hmin : ∀ c, 0 < c → c < n → (c - 1) / 2 = i → leW (g l (2 * i + 1)) (g l c) := HMIN.out
          by_cases hlt : ltW (g l (2 * i + 1)) (g l i)
          · rw [decide_eq_true hlt]
            have hm07 : Mod nowhere wr w7 := hm6.trans hm7
            have c7 : w7.cell? ⟨p, 0, none⟩ = some (.slice (some ⟨r, 0, none⟩) l.length cap) := (hm07.cell 0 hb.lt id).trans c0
            have ms := m_swap p _ w7 c7
            have HH := hide (HD.out.step (by omega) (by omega) (by omega) (by omega) hlt hmin)
            clear hlt hmin
            go_wp2_with fail
            (with_reducible refine (hswapZ r cap l (i : Int) (2 * (i : Int) + 1) i (2 * i + 1) rfl (by omega) w7 (owns_keep0 ho hm07) (by omega) (by omega)).mono ?_)
            rintro e w8 ⟨rfl, ho8, hm8⟩
            go_wp2
            have hlen8 := swapW_length l i (2 * i + 1)
            refine ⟨⟨2 * i + 1, swapW l i (2 * i + 1), rfl, by omega, ⟨r, cap, h1, h2, h3, ?_, ?_⟩, (swapW_perm (by omega) (by omega)).trans hperm, HH.out, fun k hk => ?_, ?_⟩, ?_⟩
            · rw [hlen8]; exact Blk.keep (hb.keep0 hm07) hm8 (Ne.symm h3)
            · rw [hlen8]; exact ho8
            · rw [g_swap (by omega) (by omega), if_neg (by omega), if_neg (by omega)]; exact HF.out k hk
            · exact (hmr.call0 hm07).call hm8 (by rintro b rfl; exact .inl h2)
            · simp [intOf] <;> omega
          · rw [decide_eq_false hlt]
            have hm07 : Mod nowhere wr w7 := hm6.trans hm7
            have HH := hide (HD.out.stop fun c a b d => leW.trans (show leW (g l i) (g l (2 * i + 1)) from hlt) (hmin c a b d))
            clear hlt hmin
            go_wp2
            go_ret
            exact ⟨⟨_, rfl⟩, ⟨l, HP.keep0 ⟨r, cap, h1, h2, h3, hb, ho⟩ hm07, hperm, HH.out, HF.out⟩, hmr.call0 hm07⟩
      · have HMIN := hide (show ∀ c, 0 < c → c < n → (c - 1) / 2 = i → leW (g l (2 * i + 1)) (g l c) from fun c a b d => by
          obtain rfl : c = 2 * i + 1 := by omega
          exact leW.refl _)
        have m2 := m_less p _ wr c0
        go_wp2_with fail
        (with_reducible refine (hlessZ r cap l (2 * (i : Int) + 1) (i : Int) (2 * i + 1) i (by omega) rfl wr ho (by omega) (by omega)).mono ?_)
        rintro e w7 ⟨rfl, hm7⟩
        have hmin : ∀ c, 0 < c → c < n → (c - 1) / 2 = i → leW (g l (2 * i + 1)) (g l c) := HMIN.out
        by_cases hlt : ltW (g l (2 * i + 1)) (g l i)
        · rw [decide_eq_true hlt]
          have hm07 : Mod nowhere wr w7 := hm7
          have c7 : w7.cell? ⟨p, 0, none⟩ = some (.slice (some ⟨r, 0, none⟩) l.length cap) := (hm07.cell 0 hb.lt id).trans c0
          have ms := m_swap p _ w7 c7
          have HH := hide (HD.out.step (by omega) (by omega) (by omega) (by omega) hlt hmin)
          clear hlt hmin
          go_wp2_with fail
          (with_reducible refine (hswapZ r cap l (i : Int) (2 * (i : Int) + 1) i (2 * i + 1) rfl (by omega) w7 (owns_keep0 ho hm07) (by omega) (by omega)).mono ?_)
          rintro e w8 ⟨rfl, ho8, hm8⟩
          go_wp2
          have hlen8 := swapW_length l i (2 * i + 1)
          refine ⟨⟨2 * i + 1, swapW l i (2 * i + 1), rfl, by omega, ⟨r, cap, h1, h2, h3, ?_, ?_⟩, (swapW_perm (by omega) (by omega)).trans hperm, HH.out, fun k hk => ?_, ?_⟩, ?_⟩
          · rw [hlen8]; exact Blk.keep (hb.keep0 hm07) hm8 (Ne.symm h3)
          · rw [hlen8]; exact ho8
          · rw [g_swap (by omega) (by omega), if_neg (by omega), if_neg (by omega)]; exact HF.out k hk
          · exact (hmr.call0 hm07).call hm8 (by rintro b rfl; exact .inl h2)
          · simp [intOf] <;> omega
        · rw [decide_eq_false hlt]
          have hm07 : Mod nowhere wr w7 := hm7
          have HH := hide (HD.out.stop fun c a b d => leW.trans (show leW (g l i) (g l (2 * i + 1)) from hlt) (hmin c a b d))
          clear hlt hmin
          go_wp2
          go_ret
          exact ⟨⟨_, rfl⟩, ⟨l, HP.keep0 ⟨r, cap, h1, h2, h3, hb, ho⟩ hm07, hperm, HH.out, HF.out⟩, hmr.call0 hm07⟩
    · have HH := hide (HD.out.stop fun c a b d => absurd d (by omega))
      go_wp2
      go_ret
      exact ⟨⟨_, rfl⟩, ⟨l, ⟨r, cap, h1, h2, h3, hb, ho⟩, hperm, HH.out, HF.out⟩, hmr⟩

theorem down_callsZ (H p i0 n : Nat) (l0 : List (Int × Int)) (w : World) (iz nx : Int) (hiz : iz = i0) (hnx : nx = n) (h : HP w H p l0) (hl : l0.length ≤ 1000) (hn : n ≤ l0.length) (hi0 : i0 ≤ n) (hD0 : DownInv l0 n i0) :
    Calls Try.prog 22 #[hptr p, .int .i64 iz, .int .i64 nx] w fun e w' => RetBool e ∧ (∃ l', HP w' H p l' ∧ l'.Perm l0 ∧ IsHeap l' n ∧ ∀ k, n ≤ k → g l' k = g l0 k) ∧ Mod (from_ H) w w' := by
  subst hiz hnx
  exact down_calls H p i0 n l0 w h hl hn hi0 hD0
end Go.Proofs.Ytffeidjalphemaa
