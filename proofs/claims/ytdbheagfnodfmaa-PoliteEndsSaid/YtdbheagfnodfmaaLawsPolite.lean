/- The laws of layer 6 on Polite, walked. -/
import Derived.Test.YtdbheagfnodfmaaPolite
namespace Go.Proofs.Ytdbheagfnodfmaa
open Go.RowKit

set_option maxHeartbeats 2000000 in
theorem alive6_calls (w : World) :
    Calls Try.prog 28 #[] w fun en w' => en = .returned (.bool true) ∧ Mod nowhere w w' := by
  have i1 : I64 1 := by unfold I64; omega
  have hM := hide (show metF ⟨2, 1, 0, 0, 0⟩ ⟨2, 0, 0, 0, false⟩ = ⟨2, 2, 0, 0, 0⟩ by simp [metF, moreF])
  have hK := hide (show politeK 2 = 2 by decide)
  have hS := hide (show politeS 3 2 64 = 4 by decide)
  go_enter Try.func28, Try.ntmps28
  go_wp2_with fail
  (with_reducible refine (polite_calls 2 1 0 0 0 1 0 0 0 2 0 0 0 false false 3 64 _ i1).mono ?_)
  rintro e w1 ⟨rfl, hbw1⟩
  have hzw1 := hbw1.size
  (try simp at hzw1)
  skip
  simp only [hM.out, hK.out, hS.out]
  go_wp2
  go_ret
  exact ⟨rfl, (by repeat (first | with_reducible exact Mod.refl _ _ | with_reducible assumption | with_reducible refine Mod.alloc ?_ _ | with_reducible refine Mod.drew ?_ | with_reducible refine Mod.drewN ?_ _ | with_reducible refine Mod.setCell ?_ (by first | exact .inl rfl | (left; (try unfold from_); show _ ≤ _; first | omega | (simp; done) | (simp; omega)) | (right; first | omega | (simp; done) | (simp; omega))) _ | with_reducible refine Mod.call0 ?_ (by with_reducible assumption) | with_reducible refine Mod.call ?_ (by with_reducible assumption) (by rintro _ rfl; first | exact .inl rfl | (right; (first | omega | (simp; done) | (simp; omega))))))⟩

theorem polite_ok (draw t wait : Int) (h : 1 ≤ wait) : okF (politeK t) (politeS draw t wait) wait = true := by
  unfold politeK politeS
  by_cases c : 4 < t
  · rw [if_pos c, if_pos c]; rfl
  · rw [if_neg c, if_neg c]
    generalize politeN draw t = n
    unfold okF forF
    rw [if_neg (by omega), if_pos rfl]
    repeat' split
    all_goals simp
    all_goals omega

set_option maxHeartbeats 4000000 in
theorem law_politeAlike (s0 s1 s2 s3 s4 a0 a1 a2 a3 : Int) (a4 : Bool) (b0 b1 b2 b3 : Int) (b4 : Bool) (wt n : Int) (w : World) (h0 : 0 ≤ wt) (h1 : wt ≤ 255) (hi : I64 s1) :
    Calls Try.prog 12 #[.agg #[.int .i64 s0, .int .i64 s1, .int .i64 s2, .int .i64 s3, .int .i64 s4], .agg #[.int .i64 a0, .int .i64 a1, .int .i64 a2, .int .i64 a3, .bool a4],
      .agg #[.int .i64 b0, .int .i64 b1, .int .i64 b2, .int .i64 b3, .bool b4], .int .u8 wt, .int .i64 n] w
     fun en w' => en = .returned (.bool true) ∧ Mod nowhere w w' := by
  have early : (1099511627776 < n ∨ n < -1099511627776 ∨ s1 < -1099511627776 ∨ 1099511627776 < a2 ∨ a2 < -1099511627776) ∨ (n ≤ 1099511627776 ∧ -1099511627776 ≤ n ∧ -1099511627776 ≤ s1 ∧ a2 ≤ 1099511627776 ∧ -1099511627776 ≤ a2) := by omega
  rcases early with h | ⟨g0, g1, g2, g3, g4⟩
  · go_enter Try.func12, Try.ntmps12
    go_wp2_with fail
    (with_reducible refine (alive6_calls _).mono ?_)
    rintro e w1 ⟨rfl, hbw1⟩
    have hzw1 := hbw1.size
    (try simp at hzw1)
    (try (have ltw10 : w.heap.size < w1.heap.size := (by omega); have lcw10 := fun o => hbw1.cell (b := w.heap.size) o (by first | omega | (simp; done) | (simp; omega)) (id); have lfw10 := fun o => hbw1.frozen (b := w.heap.size) o (by first | omega | (simp; done) | (simp; omega)) (id)))
    (try (have ltw11 : w.heap.size + 1 < w1.heap.size := (by omega); have lcw11 := fun o => hbw1.cell (b := w.heap.size + 1) o (by first | omega | (simp; done) | (simp; omega)) (id); have lfw11 := fun o => hbw1.frozen (b := w.heap.size + 1) o (by first | omega | (simp; done) | (simp; omega)) (id)))
    (try (have ltw12 : w.heap.size + 1 + 1 < w1.heap.size := (by omega); have lcw12 := fun o => hbw1.cell (b := w.heap.size + 1 + 1) o (by first | omega | (simp; done) | (simp; omega)) (id); have lfw12 := fun o => hbw1.frozen (b := w.heap.size + 1 + 1) o (by first | omega | (simp; done) | (simp; omega)) (id)))
    skip
    go_wp2
    all_goals first | (exfalso; omega) | skip
    all_goals go_ret
    all_goals exact ⟨rfl, (by repeat (first | with_reducible exact Mod.refl _ _ | with_reducible assumption | with_reducible refine Mod.alloc ?_ _ | with_reducible refine Mod.drew ?_ | with_reducible refine Mod.drewN ?_ _ | with_reducible refine Mod.setCell ?_ (by first | exact .inl rfl | (left; (try unfold from_); show _ ≤ _; first | omega | (simp; done) | (simp; omega)) | (right; first | omega | (simp; done) | (simp; omega))) _ | with_reducible refine Mod.call0 ?_ (by with_reducible assumption) | with_reducible refine Mod.call ?_ (by with_reducible assumption) (by rintro _ rfl; first | exact .inl rfl | (right; (first | omega | (simp; done) | (simp; omega))))))⟩
  have hsame : ∀ x y b, metF ⟨s0, s1, s2, s3, s4⟩ ⟨b0, x, y, b3, b⟩ = metF ⟨s0, s1, s2, s3, s4⟩ ⟨b0, b1, b2, b3, b4⟩ := fun _ _ _ => rfl
  generalize hM : metF ⟨s0, s1, s2, s3, s4⟩ ⟨b0, b1, b2, b3, b4⟩ = m at hsame
  obtain ⟨m0, m1, m2, m3, m4⟩ := m
  have HM := hide hsame
  clear hsame hM
  have hwt : 0 ≤ wt % 64 ∧ wt % 64 < 64 := by omega
  have HO := hide (polite_ok 5 m1 (1 + wt % 64) (by omega))
  go_enter Try.func12, Try.ntmps12
  go_wp2_with fail
  (with_reducible refine (alive6_calls _).mono ?_)
  rintro e w1 ⟨rfl, hbw1⟩
  have hzw1 := hbw1.size
  (try simp at hzw1)
  (try (have ltw10 : w.heap.size < w1.heap.size := (by omega); have lcw10 := fun o => hbw1.cell (b := w.heap.size) o (by first | omega | (simp; done) | (simp; omega)) (id); have lfw10 := fun o => hbw1.frozen (b := w.heap.size) o (by first | omega | (simp; done) | (simp; omega)) (id)))
  (try (have ltw11 : w.heap.size + 1 < w1.heap.size := (by omega); have lcw11 := fun o => hbw1.cell (b := w.heap.size + 1) o (by first | omega | (simp; done) | (simp; omega)) (id); have lfw11 := fun o => hbw1.frozen (b := w.heap.size + 1) o (by first | omega | (simp; done) | (simp; omega)) (id)))
  (try (have ltw12 : w.heap.size + 1 + 1 < w1.heap.size := (by omega); have lcw12 := fun o => hbw1.cell (b := w.heap.size + 1 + 1) o (by first | omega | (simp; done) | (simp; omega)) (id); have lfw12 := fun o => hbw1.frozen (b := w.heap.size + 1 + 1) o (by first | omega | (simp; done) | (simp; omega)) (id)))
  skip
  go_wp2_with fail
  (with_reducible refine (polite_calls s0 s1 s2 s3 s4 a0 a1 a2 a3 b0 b1 b2 b3 a4 b4 _ _ _ hi).mono ?_)
  rintro en w2 ⟨rfl, hbw2⟩
  rw [HM.out]
  have hzw2 := hbw2.size
  (try simp at hzw2)
  (try (have ltw20 : w.heap.size < w2.heap.size := (by omega); have lcw20 := fun o => hbw2.cell (b := w.heap.size) o (by first | omega | (simp; done) | (simp; omega)) (id); have lfw20 := fun o => hbw2.frozen (b := w.heap.size) o (by first | omega | (simp; done) | (simp; omega)) (id)))
  (try (have ltw21 : w.heap.size + 1 < w2.heap.size := (by omega); have lcw21 := fun o => hbw2.cell (b := w.heap.size + 1) o (by first | omega | (simp; done) | (simp; omega)) (id); have lfw21 := fun o => hbw2.frozen (b := w.heap.size + 1) o (by first | omega | (simp; done) | (simp; omega)) (id)))
  (try (have ltw22 : w.heap.size + 1 + 1 < w2.heap.size := (by omega); have lcw22 := fun o => hbw2.cell (b := w.heap.size + 1 + 1) o (by first | omega | (simp; done) | (simp; omega)) (id); have lfw22 := fun o => hbw2.frozen (b := w.heap.size + 1 + 1) o (by first | omega | (simp; done) | (simp; omega)) (id)))
  generalize hK : politeK m1 = K at HO ⊢
  generalize hS : politeS 5 m1 (1 + wt % 64) = S at HO ⊢
  have HK := hide hK
  have HS := hide hS
  clear hK hS
  go_wp2_with fail
  (with_reducible refine (polite_calls s0 s1 s2 s3 s4 _ _ _ _ b0 _ _ b3 _ _ _ _ _ hi).mono ?_)
  rintro en w3 ⟨rfl, hbw3⟩
  simp only [HM.out, HK.out, HS.out]
  have hzw3 := hbw3.size
  (try simp at hzw3)
  (try (have ltw30 : w2.heap.size < w3.heap.size := (by omega); have lcw30 := fun o => hbw3.cell (b := w2.heap.size) o (by first | omega | (simp; done) | (simp; omega)) (id); have lfw30 := fun o => hbw3.frozen (b := w2.heap.size) o (by first | omega | (simp; done) | (simp; omega)) (id)))
  (try (have ltw31 : w2.heap.size + 1 < w3.heap.size := (by omega); have lcw31 := fun o => hbw3.cell (b := w2.heap.size + 1) o (by first | omega | (simp; done) | (simp; omega)) (id); have lfw31 := fun o => hbw3.frozen (b := w2.heap.size + 1) o (by first | omega | (simp; done) | (simp; omega)) (id)))
  go_wp2_with (go_at_call 27; (with_reducible refine (ok_calls _ _ _ _).mono ?_); rintro e w4 ⟨rfl, hbw4⟩; have hzw4 := hbw4.size; (try simp at hzw4); skip; rw [HO.out])
  all_goals go_ret
  all_goals exact ⟨rfl, (by repeat (first | with_reducible exact Mod.refl _ _ | with_reducible assumption | with_reducible refine Mod.alloc ?_ _ | with_reducible refine Mod.drew ?_ | with_reducible refine Mod.drewN ?_ _ | with_reducible refine Mod.setCell ?_ (by first | exact .inl rfl | (left; (try unfold from_); show _ ≤ _; first | omega | (simp; done) | (simp; omega)) | (right; first | omega | (simp; done) | (simp; omega))) _ | with_reducible refine Mod.call0 ?_ (by with_reducible assumption) | with_reducible refine Mod.call ?_ (by with_reducible assumption) (by rintro _ rfl; first | exact .inl rfl | (right; (first | omega | (simp; done) | (simp; omega))))))⟩
end Go.Proofs.Ytdbheagfnodfmaa
