/- The law PaceBegins, walked. -/
import Derived.Test.YtffeidjalphemaaPaceT
namespace Go.Proofs.Ytffeidjalphemaa
open Go.RowKit

theorem stM_take (f : Int) (n : Nat) (ws : List Int) (j : Nat) : (stM f n (ws.take j)).2 = (stM f n ws).2.take j := by
  by_cases hj : j ≤ ws.length
  · refine stM_ind f n (fun ws s => ∀ j, j ≤ ws.length → (stM f n (ws.take j)).2 = s.2.take j) (fun j hj => ?_) (fun ws w ih j hj => ?_) ws j hj
    · simp at hj; subst hj; simp [stM_nil]
    · by_cases e : j ≤ ws.length
      · rw [stM_snoc, List.take_append_of_le_length e, ih j e, List.take_append_of_le_length (by rw [(stM_len f n ws).2]; exact e)]
      · simp at hj
        rw [List.take_of_length_le (by simp; omega), List.take_of_length_le (by rw [(stM_len f n (ws ++ [w])).2]; simp; omega)]
  · rw [List.take_of_length_le (by omega), List.take_of_length_le (by rw [(stM_len f n ws).2]; omega)]
theorem LocRow.readsc {w : World} {H n : Nat} {E : TypeId} {size : Nat} {z : Value} {xs : List Value} (h : LocRow w H E size z n xs) : ∃ A c, z = .slice A n c ∧ Reads w w.heap.size size A n xs ∧ n ≤ c ∧ c ≤ maxLen := by
  obtain ⟨A, cap, rfl, ho, hA⟩ := h
  refine ⟨A, cap, rfl, Reads.of_own ho, ?_⟩
  rcases hA with ⟨rfl, rfl, rfl⟩ | ⟨q, rfl, -⟩
  · exact ⟨Nat.le_refl _, Nat.zero_le _⟩
  · obtain ⟨-, hh | ⟨q', cap', cur, h1, -, -, h4, h5, -⟩⟩ := ho
    · cases hh.1
    · injection h1 with _ _ h1; subst h1; exact ⟨h4, h5⟩
theorem Reads.take {w : World} {B n j : Nat} {A : Option Addr} {xs : List Value} (h : Reads w B 1 A n xs) (hj : j ≤ n) : Reads w B 1 A j (xs.take j) := by
  refine ⟨by rw [List.length_take, h.1]; omega, fun h0 => ?_⟩
  obtain ⟨ad, h1, h2, h3⟩ := h.2 (by omega)
  refine ⟨ad, h1, h2, fun i u hu => h3 i u ?_⟩
  rw [List.getElem?_take] at hu
  split at hu
  · exact hu
  · cases hu

set_option maxRecDepth 100000 in
set_option maxHeartbeats 8000000 in
theorem law_paceBegins (A : Option Addr) (m c : Nat) (l : List Int) (nn more kk : Int) (w : World) (hl : l.length = m) (hr : Reads w w.heap.size 1 A m (l.map (Value.int .i64))) (hc : m ≤ c) (a0 : 0 ≤ nn) (a1 : nn ≤ 255) (b0 : 0 ≤ more) (b1 : more ≤ 255) (d0 : 0 ≤ kk) (d1 : kk ≤ 255) :
    Calls Try.prog 8 #[.slice A m c, .int .u8 nn, .int .u8 more, .int .u8 kk] w
     fun en w' => en = .returned (.bool true) ∧ Mod nowhere w w' := by

  by_cases g0 : 300 < m
  · go_enter Try.func8, Try.ntmps8
    go_wp2_with fail
    (with_reducible refine (alive22_calls _).mono ?_)
    rintro e w1 ⟨rfl, hbw1⟩
    have hzw1 := hbw1.size
    (try simp at hzw1)
    skip
    skip
    go_wp2
    go_ret
    exact ⟨rfl, (by repeat (first | with_reducible exact Mod.refl _ _ | with_reducible assumption | with_reducible refine Mod.alloc ?_ _ | with_reducible refine Mod.drew ?_ | with_reducible refine Mod.drewN ?_ _ | with_reducible refine Mod.setCell ?_ (by first | exact .inl rfl | (left; (try unfold from_); show _ ≤ _; first | omega | (simp; done) | (simp; omega)) | (right; first | omega | (simp; done) | (simp; omega))) _ | with_reducible refine Mod.call0 ?_ (by with_reducible assumption) | with_reducible refine Mod.call ?_ (by with_reducible assumption) (by first | (rintro _ rfl; first | exact .inl rfl | (right; (first | omega | (simp; done) | (simp; omega)))) | (rintro _ (rfl | rfl) <;> (right; (first | omega | (simp; done) | (simp; omega)))))))⟩
  have HR := hide hr
  have HL := hide hl
  clear hr hl
  obtain ⟨n, hn⟩ : ∃ n : Nat, nn % 6 = (n : Int) := ⟨(nn % 6).toNat, by omega⟩
  obtain ⟨e, he⟩ : ∃ e : Nat, more % 20 = (e : Int) := ⟨(more % 20).toNat, by omega⟩
  obtain ⟨j, hj⟩ : ∃ j : Nat, kk % ((m : Int) + 1) = (j : Int) := ⟨(kk % ((m : Int) + 1)).toNat, by have := Int.emod_nonneg kk (show (m : Int) + 1 ≠ 0 by omega); omega⟩
  have hjm : j ≤ m := by have := Int.emod_lt_of_pos kk (show (0 : Int) < (m : Int) + 1 by omega); omega
  have hn6 : n < 6 := by omega
  have he20 : e < 20 := by omega
  go_enter Try.func8, Try.ntmps8
  go_wp2_with fail
  (with_reducible refine (alive22_calls _).mono ?_)
  rintro e w1 ⟨rfl, hbw1⟩
  have hzw1 := hbw1.size
  (try simp at hzw1)
  skip
  skip
  have y1 : Mod nowhere w w1 := (by repeat (first | with_reducible exact Mod.refl _ _ | with_reducible assumption | with_reducible refine Mod.alloc ?_ _ | with_reducible refine Mod.drew ?_ | with_reducible refine Mod.drewN ?_ _ | with_reducible refine Mod.setCell ?_ (by first | exact .inl rfl | (left; (try unfold from_); show _ ≤ _; first | omega | (simp; done) | (simp; omega)) | (right; first | omega | (simp; done) | (simp; omega))) _ | with_reducible refine Mod.call0 ?_ (by with_reducible assumption) | with_reducible refine Mod.call ?_ (by with_reducible assumption) (by first | (rintro _ rfl; first | exact .inl rfl | (right; (first | omega | (simp; done) | (simp; omega)))) | (rintro _ (rfl | rfl) <;> (right; (first | omega | (simp; done) | (simp; omega)))))))
  go_wp2_with fail
  have R1 : Reads w w.heap.size 1 A j ((l.take j).map (Value.int .i64)) := by rw [List.map_take]; exact HR.out.take hjm
  have HR1 := hide R1
  clear R1
  (with_reducible refine (make_callsZ A j c w.heap.size (1 + n) (l.take j) (1 + (n : Int)) (1 + (n : Int) + (e : Int)) w1 (by omega) (HR1.out.keepMod (Nat.le_refl _) y1) y1.size (by rw [List.length_take, HL.out]; omega) (by omega) (by omega) (by omega) (by omega) (by omega)).mono ?_)
  rintro e2 w2 ⟨z2, rfl, hz2, hm2⟩
  have y2 : Mod nowhere w w2 := y1.call0 hm2
  obtain ⟨A2, c2, rfl, hrd2, hca2, hcb2⟩ := hz2.readsc
  have HRD2 := hide hrd2
  clear hz2 hrd2
  go_wp2_with fail
  (with_reducible refine (make_callsZ A m c w.heap.size (1 + n) l (1 + (n : Int)) (1 + (n : Int) + (e : Int)) w2 (by omega) (HR.out.keepMod (Nat.le_refl _) y2) y2.size HL.out (by omega) (by omega) (by omega) (by omega) (by omega)).mono ?_)
  rintro e3 w3 ⟨z3, rfl, hz3, hm3⟩
  have y3 : Mod nowhere w w3 := y2.call0 hm3
  obtain ⟨A3, c3, rfl, hrd3, hca3, hcb3⟩ := hz3.readsc
  have hrd4 := hrd3.take hjm
  rw [← List.map_take, ← stM_take] at hrd4
  have HRD4 := hide hrd4
  clear hz3 hrd3 hrd4
  unfold maxLen at hcb2 hcb3
  go_wp2_with fail
  (with_reducible refine (ints_same (stM (1 + (n : Int) + (e : Int)) (1 + n) (l.take j)).2 A2 A3 j c2 c3 w2.heap.size w3.heap.size w3 (by rw [(stM_len _ _ _).2, List.length_take, HL.out]; omega) (by omega) (HRD2.out.keepMod (Nat.le_refl _) hm3) HRD4.out hm3.size (Nat.le_refl _)).mono ?_)
  rintro e4 w4 ⟨rfl, hm4⟩
  go_wp2
  go_ret
  exact ⟨rfl, y3.call0 hm4⟩
end Go.Proofs.Ytffeidjalphemaa
