/- The law CellsActs, walked. -/
import Derived.Test.YtanmibdnnjfpbaaActE
namespace Go.Proofs.Ytanmibdnnjfpbaa
open Go.RowKit Go.ChangeShapes Go.WideShapes Go.Deep Go.Joins Go.ChangeAt

theorem First.eq {l : List Int} {k : Nat} {cs cs' : List Value} (h : First l k cs) (h' : First l k cs') (hl : l.length = k) (e : cs.length = 2 * k * 9) (e' : cs'.length = 2 * k * 9) : cs = cs' := by
  have key : ∀ (i : Nat) (x0 x1 x2 x3 x4 x5 x6 x7 x8 : Int), Rec9 cs i x0 x1 x2 x3 x4 x5 x6 x7 x8 → Rec9 cs' i x0 x1 x2 x3 x4 x5 x6 x7 x8 → ∀ j, j < 9 → cs[i * 9 + j]? = cs'[i * 9 + j]? := by
    intro i x0 x1 x2 x3 x4 x5 x6 x7 x8 a b j hj
    have : j = 0 ∨ j = 1 ∨ j = 2 ∨ j = 3 ∨ j = 4 ∨ j = 5 ∨ j = 6 ∨ j = 7 ∨ j = 8 := by omega
    rcases this with rfl | rfl | rfl | rfl | rfl | rfl | rfl | rfl | rfl
    · exact a.h0.trans b.h0.symm
    · exact a.h1.trans b.h1.symm
    · exact a.h2.trans b.h2.symm
    · exact a.h3.trans b.h3.symm
    · exact a.h4.trans b.h4.symm
    · exact a.h5.trans b.h5.symm
    · exact a.h6.trans b.h6.symm
    · exact a.h7.trans b.h7.symm
    · exact a.h8.trans b.h8.symm
  apply List.ext_getElem?
  intro j
  by_cases hj : j < 2 * k * 9
  · have hi : j / 9 / 2 < k := by omega
    have hx : l[j / 9 / 2]? = some (l[j / 9 / 2]'(by omega)) := List.getElem?_eq_getElem (by omega)
    obtain ⟨a1, a2⟩ := h _ _ hi hx
    obtain ⟨b1, b2⟩ := h' _ _ hi hx
    have hd : j / 9 = 2 * (j / 9 / 2) ∨ j / 9 = 2 * (j / 9 / 2) + 1 := by omega
    have hje : j = j / 9 * 9 + j % 9 := by omega
    rcases hd with hd | hd
    · have := key _ _ _ _ _ _ _ _ _ _ a1 b1 (j % 9) (by omega)
      rw [← hd, ← hje] at this
      exact this
    · have := key _ _ _ _ _ _ _ _ _ _ a2 b2 (j % 9) (by omega)
      rw [← hd, ← hje] at this
      exact this
  · rw [List.getElem?_eq_none (by omega), List.getElem?_eq_none (by omega)]
theorem First.good {l : List Int} {k : Nat} {cs : List Value} (h : First l k cs) (hl : l.length = k) : Good cs (2 * k) := fun i hi => by
  have hx : l[i / 2]? = some (l[i / 2]'(by omega)) := List.getElem?_eq_getElem (by omega)
  obtain ⟨a1, a2⟩ := h _ _ (by omega) hx
  have hd : i = 2 * (i / 2) ∨ i = 2 * (i / 2) + 1 := by omega
  rcases hd with hd | hd
  · rw [hd]; exact .inl ⟨_, a1⟩
  · rw [hd]
    exact .inr (.inl ⟨-1, 2 * (i / 2), 2 * (i / 2), _, _, by unfold I64; omega, by omega, by omega, by simpa using a2, a1, a1⟩)

set_option maxRecDepth 100000 in
set_option maxHeartbeats 40000000 in
theorem acts_long (x : Int) (A : Option Addr) (n0 c0 : Nat) (A3 : Option Addr) (n3 c3 : Nat) (w : World) (g0 : 100 < n3 ∨ 20 < n0) :
    Calls Try.prog 3 #[.int .u8 x, .slice A n0 c0, .slice A3 n3 c3] w
     fun en w' => en = .returned (.bool true) ∧ Mod nowhere w w' := by
  by_cases h : 100 < n3
  · have q1 : decide (100 < n3) = true := by simp; omega
    go_enter Try.func3, Try.ntmps3
    go_wp2_with fail
    (with_reducible refine (alive4_calls _).mono ?_)
    rintro e w1 ⟨rfl, hbw1⟩
    have hzw1 := hbw1.size
    (try simp at hzw1)
    skip
    skip
    have y1 : Mod nowhere w w1 := (by repeat (first | with_reducible exact Mod.refl _ _ | with_reducible assumption | with_reducible refine Mod.alloc ?_ _ | with_reducible refine Mod.drew ?_ | with_reducible refine Mod.drewN ?_ _ | with_reducible refine Mod.setCell ?_ (by first | exact .inl rfl | (left; (try unfold from_); show _ ≤ _; first | omega | (simp; done) | (simp; omega)) | (right; first | omega | (simp; done) | (simp; omega))) _ | with_reducible refine Mod.call0 ?_ (by with_reducible assumption) | with_reducible refine Mod.call ?_ (by with_reducible assumption) (by first | (rintro _ rfl; first | exact .inl rfl | (right; (first | omega | (simp; done) | (simp; omega)))) | (rintro _ (rfl | rfl) <;> (right; (first | omega | (simp; done) | (simp; omega)))))))
    go_wp2
    go_ret
    exact ⟨rfl, y1⟩
  · have q1 : decide (100 < n3) = false := by simp; omega
    have q2 : 20 < n0 := by omega
    go_enter Try.func3, Try.ntmps3
    go_wp2_with fail
    (with_reducible refine (alive4_calls _).mono ?_)
    rintro e w1 ⟨rfl, hbw1⟩
    have hzw1 := hbw1.size
    (try simp at hzw1)
    skip
    skip
    have y1 : Mod nowhere w w1 := (by repeat (first | with_reducible exact Mod.refl _ _ | with_reducible assumption | with_reducible refine Mod.alloc ?_ _ | with_reducible refine Mod.drew ?_ | with_reducible refine Mod.drewN ?_ _ | with_reducible refine Mod.setCell ?_ (by first | exact .inl rfl | (left; (try unfold from_); show _ ≤ _; first | omega | (simp; done) | (simp; omega)) | (right; first | omega | (simp; done) | (simp; omega))) _ | with_reducible refine Mod.call0 ?_ (by with_reducible assumption) | with_reducible refine Mod.call ?_ (by with_reducible assumption) (by first | (rintro _ rfl; first | exact .inl rfl | (right; (first | omega | (simp; done) | (simp; omega)))) | (rintro _ (rfl | rfl) <;> (right; (first | omega | (simp; done) | (simp; omega)))))))
    go_wp2
    go_ret
    exact ⟨rfl, y1⟩
set_option maxRecDepth 100000 in
set_option maxHeartbeats 40000000 in
theorem acts_bad (x : Int) (hx0 : 0 ≤ x) (hx1 : x ≤ 255) (A : Option Addr) (n0 c0 : Nat) (A3 : Option Addr) (n3 c3 : Nat) (w : World) (k : Int) (g0 : ¬ 100 < n3) (g1 : ¬ 20 < n0) (m : Nat) (hm : x % 64 = m) (hk : (n0 < 1 ∨ 8 < n0) ∧ k = 2 ∨ 1 ≤ n0 ∧ n0 ≤ 8 ∧ 1 + (m : Int) < 2 * (n0 : Int) ∧ k = 4) :
    Calls Try.prog 3 #[.int .u8 x, .slice A n0 c0, .slice A3 n3 c3] w
     fun en w' => en = .returned (.bool true) ∧ Mod nowhere w w' := by
  have hm64 : m < 64 := by omega
  have hon := obj_nil
  have hmade := fun W => made4_bad (1 + (m : Int)) A n0 c0 W (by omega) (by omega) k (by omega)
  have HM := hide hmade
  clear hmade
  rcases hk with ⟨hk, rfl⟩ | ⟨k1, k2, k3, rfl⟩
  · rcases (show n0 < 1 ∨ (¬ n0 < 1 ∧ 8 < n0) by omega) with h | ⟨h0, h⟩
    · have q1 : decide (n0 < 1) = true := by simp; omega
      go_enter Try.func3, Try.ntmps3
      go_wp2_with fail
      (with_reducible refine (alive4_calls _).mono ?_)
      rintro e w1 ⟨rfl, hbw1⟩
      have hzw1 := hbw1.size
      (try simp at hzw1)
      skip
      skip
      have y1 : Mod nowhere w w1 := (by repeat (first | with_reducible exact Mod.refl _ _ | with_reducible assumption | with_reducible refine Mod.alloc ?_ _ | with_reducible refine Mod.drew ?_ | with_reducible refine Mod.drewN ?_ _ | with_reducible refine Mod.setCell ?_ (by first | exact .inl rfl | (left; (try unfold from_); show _ ≤ _; first | omega | (simp; done) | (simp; omega)) | (right; first | omega | (simp; done) | (simp; omega))) _ | with_reducible refine Mod.call0 ?_ (by with_reducible assumption) | with_reducible refine Mod.call ?_ (by with_reducible assumption) (by first | (rintro _ rfl; first | exact .inl rfl | (right; (first | omega | (simp; done) | (simp; omega)))) | (rintro _ (rfl | rfl) <;> (right; (first | omega | (simp; done) | (simp; omega)))))))
      go_wp2_with fail
      (with_reducible refine (HM.out _).mono ?_)
      rintro e w2 ⟨p, q, rfl, hm2⟩
      go_wp2_with (go_at_call 6; (with_reducible refine (obj_nil _).mono ?_); rintro e w3 ⟨rfl, hbw3⟩; have hzw3 := hbw3.size; (try simp at hzw3); skip; skip)
      go_ret
      exact ⟨rfl, (by repeat (first | with_reducible exact Mod.refl _ _ | with_reducible assumption | with_reducible refine Mod.alloc ?_ _ | with_reducible refine Mod.drew ?_ | with_reducible refine Mod.drewN ?_ _ | with_reducible refine Mod.setCell ?_ (by first | exact .inl rfl | (left; (try unfold from_); show _ ≤ _; first | omega | (simp; done) | (simp; omega)) | (right; first | omega | (simp; done) | (simp; omega))) _ | with_reducible refine Mod.call0 ?_ (by with_reducible assumption) | with_reducible refine Mod.call ?_ (by with_reducible assumption) (by first | (rintro _ rfl; first | exact .inl rfl | (right; (first | omega | (simp; done) | (simp; omega)))) | (rintro _ (rfl | rfl) <;> (right; (first | omega | (simp; done) | (simp; omega)))))))⟩
    · have q1 : decide (n0 < 1) = false := by simp; omega
      have q2 : decide (8 < n0) = true := by simp; omega
      go_enter Try.func3, Try.ntmps3
      go_wp2_with fail
      (with_reducible refine (alive4_calls _).mono ?_)
      rintro e w1 ⟨rfl, hbw1⟩
      have hzw1 := hbw1.size
      (try simp at hzw1)
      skip
      skip
      have y1 : Mod nowhere w w1 := (by repeat (first | with_reducible exact Mod.refl _ _ | with_reducible assumption | with_reducible refine Mod.alloc ?_ _ | with_reducible refine Mod.drew ?_ | with_reducible refine Mod.drewN ?_ _ | with_reducible refine Mod.setCell ?_ (by first | exact .inl rfl | (left; (try unfold from_); show _ ≤ _; first | omega | (simp; done) | (simp; omega)) | (right; first | omega | (simp; done) | (simp; omega))) _ | with_reducible refine Mod.call0 ?_ (by with_reducible assumption) | with_reducible refine Mod.call ?_ (by with_reducible assumption) (by first | (rintro _ rfl; first | exact .inl rfl | (right; (first | omega | (simp; done) | (simp; omega)))) | (rintro _ (rfl | rfl) <;> (right; (first | omega | (simp; done) | (simp; omega)))))))
      go_wp2_with fail
      (with_reducible refine (HM.out _).mono ?_)
      rintro e w2 ⟨p, q, rfl, hm2⟩
      go_wp2_with (go_at_call 6; (with_reducible refine (obj_nil _).mono ?_); rintro e w3 ⟨rfl, hbw3⟩; have hzw3 := hbw3.size; (try simp at hzw3); skip; skip)
      go_ret
      exact ⟨rfl, (by repeat (first | with_reducible exact Mod.refl _ _ | with_reducible assumption | with_reducible refine Mod.alloc ?_ _ | with_reducible refine Mod.drew ?_ | with_reducible refine Mod.drewN ?_ _ | with_reducible refine Mod.setCell ?_ (by first | exact .inl rfl | (left; (try unfold from_); show _ ≤ _; first | omega | (simp; done) | (simp; omega)) | (right; first | omega | (simp; done) | (simp; omega))) _ | with_reducible refine Mod.call0 ?_ (by with_reducible assumption) | with_reducible refine Mod.call ?_ (by with_reducible assumption) (by first | (rintro _ rfl; first | exact .inl rfl | (right; (first | omega | (simp; done) | (simp; omega)))) | (rintro _ (rfl | rfl) <;> (right; (first | omega | (simp; done) | (simp; omega)))))))⟩
  · have q1 : decide (n0 < 1) = false := by simp; omega
    have q2 : decide (8 < n0) = false := by simp; omega
    have iw : IntKind.i64.wrap (2 * (n0 : Int)) = 2 * (n0 : Int) := IntWalk.i64_in _ (by omega)
    go_enter Try.func3, Try.ntmps3
    go_wp2_with fail
    (with_reducible refine (alive4_calls _).mono ?_)
    rintro e w1 ⟨rfl, hbw1⟩
    have hzw1 := hbw1.size
    (try simp at hzw1)
    skip
    skip
    have y1 : Mod nowhere w w1 := (by repeat (first | with_reducible exact Mod.refl _ _ | with_reducible assumption | with_reducible refine Mod.alloc ?_ _ | with_reducible refine Mod.drew ?_ | with_reducible refine Mod.drewN ?_ _ | with_reducible refine Mod.setCell ?_ (by first | exact .inl rfl | (left; (try unfold from_); show _ ≤ _; first | omega | (simp; done) | (simp; omega)) | (right; first | omega | (simp; done) | (simp; omega))) _ | with_reducible refine Mod.call0 ?_ (by with_reducible assumption) | with_reducible refine Mod.call ?_ (by with_reducible assumption) (by first | (rintro _ rfl; first | exact .inl rfl | (right; (first | omega | (simp; done) | (simp; omega)))) | (rintro _ (rfl | rfl) <;> (right; (first | omega | (simp; done) | (simp; omega)))))))
    go_wp2_with fail
    (with_reducible refine (HM.out _).mono ?_)
    rintro e w2 ⟨p, q, rfl, hm2⟩
    go_wp2_with (go_at_call 6; (with_reducible refine (obj_nil _).mono ?_); rintro e w3 ⟨rfl, hbw3⟩; have hzw3 := hbw3.size; (try simp at hzw3); skip; skip)
    go_ret
    exact ⟨rfl, (by repeat (first | with_reducible exact Mod.refl _ _ | with_reducible assumption | with_reducible refine Mod.alloc ?_ _ | with_reducible refine Mod.drew ?_ | with_reducible refine Mod.drewN ?_ _ | with_reducible refine Mod.setCell ?_ (by first | exact .inl rfl | (left; (try unfold from_); show _ ≤ _; first | omega | (simp; done) | (simp; omega)) | (right; first | omega | (simp; done) | (simp; omega))) _ | with_reducible refine Mod.call0 ?_ (by with_reducible assumption) | with_reducible refine Mod.call ?_ (by with_reducible assumption) (by first | (rintro _ rfl; first | exact .inl rfl | (right; (first | omega | (simp; done) | (simp; omega)))) | (rintro _ (rfl | rfl) <;> (right; (first | omega | (simp; done) | (simp; omega)))))))⟩
end Go.Proofs.Ytanmibdnnjfpbaa
