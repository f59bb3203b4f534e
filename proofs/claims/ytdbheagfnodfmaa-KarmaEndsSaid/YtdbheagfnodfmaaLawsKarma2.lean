/- The laws of layer 7 without the document's answer, walked. -/
import Derived.Test.YtdbheagfnodfmaaLawsKarma
import Derived.Deep.DeepCutAuto
namespace Go.Proofs.Ytdbheagfnodfmaa
open Go.RowKit

set_option maxHeartbeats 2000000 in
theorem law_karmaGreater (a0 a1 a2 a3 : Int) (a4 : Bool) (b0 b1 b2 b3 : Int) (b4 : Bool) (wait : Int) (w : World) :
    Calls Try.prog 7 #[.agg #[.int .i64 a0, .int .i64 a1, .int .i64 a2, .int .i64 a3, .bool a4],
      .agg #[.int .i64 b0, .int .i64 b1, .int .i64 b2, .int .i64 b3, .bool b4], .int .i64 wait] w
     fun en w' => en = .returned (.bool true) ∧ Mod nowhere w w' := by
  have i0 : I64 0 := by unfold I64; omega
  have early : (b0 < 0 ∨ 1099511627776 < a2 ∨ a2 < -1099511627776 ∨ 1099511627776 < b2 ∨ b2 < -1099511627776) ∨ (0 ≤ b0 ∧ a2 ≤ 1099511627776 ∧ -1099511627776 ≤ a2 ∧ b2 ≤ 1099511627776 ∧ -1099511627776 ≤ b2) := by omega
  rcases early with h | ⟨g0, g1, g2, g3, g4⟩
  · go_enter Try.func7, Try.ntmps7
    go_wp2_with fail
    (with_reducible refine (alive7_calls _).mono ?_)
    rintro e w1 ⟨rfl, hbw1⟩
    have hzw1 := hbw1.size
    (try simp at hzw1)
    (try (have ltw10 : w.heap.size < w1.heap.size := (by omega); have lcw10 := fun o => hbw1.cell (b := w.heap.size) o (by first | omega | (simp; done) | (simp; omega)) (id); have lfw10 := fun o => hbw1.frozen (b := w.heap.size) o (by first | omega | (simp; done) | (simp; omega)) (id)))
    (try (have ltw11 : w.heap.size + 1 < w1.heap.size := (by omega); have lcw11 := fun o => hbw1.cell (b := w.heap.size + 1) o (by first | omega | (simp; done) | (simp; omega)) (id); have lfw11 := fun o => hbw1.frozen (b := w.heap.size + 1) o (by first | omega | (simp; done) | (simp; omega)) (id)))
    skip
    go_wp2
    all_goals first | (exfalso; omega) | skip
    all_goals go_ret
    all_goals exact ⟨rfl, (by repeat (first | with_reducible exact Mod.refl _ _ | with_reducible assumption | with_reducible refine Mod.alloc ?_ _ | with_reducible refine Mod.drew ?_ | with_reducible refine Mod.drewN ?_ _ | with_reducible refine Mod.setCell ?_ (by first | exact .inl rfl | (left; (try unfold from_); show _ ≤ _; first | omega | (simp; done) | (simp; omega)) | (right; first | omega | (simp; done) | (simp; omega))) _ | with_reducible refine Mod.call0 ?_ (by with_reducible assumption) | with_reducible refine Mod.call ?_ (by with_reducible assumption) (by rintro _ rfl; first | exact .inl rfl | (right; (first | omega | (simp; done) | (simp; omega))))))⟩
  have hM := hide (show metF ⟨-1, 0, 0, 0, 0⟩ ⟨b0, b1, b2, b3, b4⟩ = ⟨b0, 1, 0, b3, 0⟩ by unfold metF; rw [if_neg (by simp only; omega)])
  have hs : Small a2 := small_of (by omega) (by omega)
  have h1 : Small 1 := small_of (by omega) (by omega)
  have hK := hide (show karmaK a2 b2 1 = 1 ↔ b2 - 1 ≤ a2 by
    unfold karmaK
    by_cases h : karmaA a2 b2 1
    · rw [if_pos h]; unfold karmaA at h; simp; omega
    · rw [if_neg h]; unfold karmaA at h; simp; omega)
  generalize hKK : karmaK a2 b2 1 = K at hK
  generalize hSS : karmaS a2 b2 1 wait = S
  have HK := hide hKK
  have HS := hide hSS
  clear hKK hSS
  go_enter Try.func7, Try.ntmps7
  go_wp2_with fail
  (with_reducible refine (alive7_calls _).mono ?_)
  rintro e w1 ⟨rfl, hbw1⟩
  have hzw1 := hbw1.size
  (try simp at hzw1)
  (try (have ltw10 : w.heap.size < w1.heap.size := (by omega); have lcw10 := fun o => hbw1.cell (b := w.heap.size) o (by first | omega | (simp; done) | (simp; omega)) (id); have lfw10 := fun o => hbw1.frozen (b := w.heap.size) o (by first | omega | (simp; done) | (simp; omega)) (id)))
  (try (have ltw11 : w.heap.size + 1 < w1.heap.size := (by omega); have lcw11 := fun o => hbw1.cell (b := w.heap.size + 1) o (by first | omega | (simp; done) | (simp; omega)) (id); have lfw11 := fun o => hbw1.frozen (b := w.heap.size + 1) o (by first | omega | (simp; done) | (simp; omega)) (id)))
  skip
  go_upto_region 5 with fail
  go_cut [7, 8] (fun s7 s8 wx => ∃ p q : Nat, s7 = .pointer (some ⟨p, 0, none⟩) ∧ s8 = .pointer (some ⟨q, 0, none⟩) ∧ Blk wx p 40 #[.int .i64 K, .int .i64 S] ∧ Blk wx q 23 #[.int .i64 b0, .int .i64 1, .int .i64 0, .int .i64 b3, .int .i64 0] ∧
    Blk wx w.heap.size 25 #[.int .i64 a0, .int .i64 a1, .int .i64 a2, .int .i64 a3, .bool a4] ∧ Blk wx (w.heap.size + 1) 25 #[.int .i64 b0, .int .i64 b1, .int .i64 b2, .int .i64 b3, .bool b4] ∧ Mod nowhere w wx)
  case first =>
    go_region_held3 (fun w' => w'.cell? ⟨w.heap.size, 0, none⟩ = some (.int .i64 a0) ∧ w'.cell? ⟨w.heap.size, 1, none⟩ = some (.int .i64 a1) ∧ w'.cell? ⟨w.heap.size, 2, none⟩ = some (.int .i64 a2) ∧ w'.cell? ⟨w.heap.size, 3, none⟩ = some (.int .i64 a3) ∧ w'.cell? ⟨w.heap.size, 4, none⟩ = some (.bool a4) ∧ w'.cell? ⟨w.heap.size + 1, 0, none⟩ = some (.int .i64 b0) ∧ w'.cell? ⟨w.heap.size + 1, 1, none⟩ = some (.int .i64 b1) ∧ w'.cell? ⟨w.heap.size + 1, 2, none⟩ = some (.int .i64 b2) ∧ w'.cell? ⟨w.heap.size + 1, 3, none⟩ = some (.int .i64 b3) ∧ w'.cell? ⟨w.heap.size + 1, 4, none⟩ = some (.bool b4) ∧ Mod nowhere w1 w') ((repeat' apply And.intro) <;> first | (simp [*]; done) | (go_simp; done) | exact (by repeat (first | with_reducible exact Mod.refl _ _ | with_reducible assumption | with_reducible refine Mod.alloc ?_ _ | with_reducible refine Mod.drew ?_ | with_reducible refine Mod.drewN ?_ _ | with_reducible refine Mod.setCell ?_ (by first | exact .inl rfl | (left; (try unfold from_); show _ ≤ _; first | omega | (simp; done) | (simp; omega)) | (right; first | omega | (simp; done) | (simp; omega))) _ | with_reducible refine Mod.call0 ?_ (by with_reducible assumption) | with_reducible refine Mod.call ?_ (by with_reducible assumption) (by rintro _ rfl; first | exact .inl rfl | (right; (first | omega | (simp; done) | (simp; omega))))))) (first | (go_at_call 20; (with_reducible refine (fresh_calls _).mono ?_); rintro e w2 ⟨rfl, hbw2⟩; have hzw2 := hbw2.size; (try simp at hzw2); (try (have ltw20 : w.heap.size < w2.heap.size := (by omega); have lcw20 := fun o => hbw2.cell (b := w.heap.size) o (by first | omega | (simp; done) | (simp; omega)) (id); have lfw20 := fun o => hbw2.frozen (b := w.heap.size) o (by first | omega | (simp; done) | (simp; omega)) (id))); (try (have ltw21 : w.heap.size + 1 < w2.heap.size := (by omega); have lcw21 := fun o => hbw2.cell (b := w.heap.size + 1) o (by first | omega | (simp; done) | (simp; omega)) (id); have lfw21 := fun o => hbw2.frozen (b := w.heap.size + 1) o (by first | omega | (simp; done) | (simp; omega)) (id))); (try (have ltw22 : w1.heap.size < w2.heap.size := (by omega); have lcw22 := fun o => hbw2.cell (b := w1.heap.size) o (by first | omega | (simp; done) | (simp; omega)) (id); have lfw22 := fun o => hbw2.frozen (b := w1.heap.size) o (by first | omega | (simp; done) | (simp; omega)) (id))); (try (have ltw23 : w1.heap.size + 1 < w2.heap.size := (by omega); have lcw23 := fun o => hbw2.cell (b := w1.heap.size + 1) o (by first | omega | (simp; done) | (simp; omega)) (id); have lfw23 := fun o => hbw2.frozen (b := w1.heap.size + 1) o (by first | omega | (simp; done) | (simp; omega)) (id))); skip) | (go_at_call 22; (with_reducible refine (karma_calls (-1) 0 0 0 0 _ _ _ _ _ _ _ _ _ _ _ _ _ i0 hs (by rw [hM.out]; exact h1)).mono ?_); rintro e w3 ⟨rfl, hbw3⟩; have hzw3 := hbw3.size; (try simp at hzw3); (try (have ltw30 : w.heap.size < w3.heap.size := (by omega); have lcw30 := fun o => hbw3.cell (b := w.heap.size) o (by first | omega | (simp; done) | (simp; omega)) (id); have lfw30 := fun o => hbw3.frozen (b := w.heap.size) o (by first | omega | (simp; done) | (simp; omega)) (id))); (try (have ltw31 : w.heap.size + 1 < w3.heap.size := (by omega); have lcw31 := fun o => hbw3.cell (b := w.heap.size + 1) o (by first | omega | (simp; done) | (simp; omega)) (id); have lfw31 := fun o => hbw3.frozen (b := w.heap.size + 1) o (by first | omega | (simp; done) | (simp; omega)) (id))); (try (have ltw32 : w1.heap.size < w3.heap.size := (by omega); have lcw32 := fun o => hbw3.cell (b := w1.heap.size) o (by first | omega | (simp; done) | (simp; omega)) (id); have lfw32 := fun o => hbw3.frozen (b := w1.heap.size) o (by first | omega | (simp; done) | (simp; omega)) (id))); (try (have ltw33 : w1.heap.size + 1 < w3.heap.size := (by omega); have lcw33 := fun o => hbw3.cell (b := w1.heap.size + 1) o (by first | omega | (simp; done) | (simp; omega)) (id); have lfw33 := fun o => hbw3.frozen (b := w1.heap.size + 1) o (by first | omega | (simp; done) | (simp; omega)) (id))); (try (have ltw34 : w2.heap.size < w3.heap.size := (by omega); have lcw34 := fun o => hbw3.cell (b := w2.heap.size) o (by first | omega | (simp; done) | (simp; omega)) (id); have lfw34 := fun o => hbw3.frozen (b := w2.heap.size) o (by first | omega | (simp; done) | (simp; omega)) (id))); (try (have ltw35 : w2.heap.size + 1 < w3.heap.size := (by omega); have lcw35 := fun o => hbw3.cell (b := w2.heap.size + 1) o (by first | omega | (simp; done) | (simp; omega)) (id); have lfw35 := fun o => hbw3.frozen (b := w2.heap.size + 1) o (by first | omega | (simp; done) | (simp; omega)) (id))); simp only [hM.out, HK.out, HS.out]))
    all_goals
      go_wp2_with fail
      go_meet
    all_goals exact ⟨_, _, rfl, rfl, (by repeat (first | with_reducible assumption | with_reducible apply Blk.new | with_reducible exact Blk.newAt (by first | rfl | (simp; done) | (simp; omega)) | with_reducible apply Blk.alloc | with_reducible apply Blk.drew | with_reducible apply Blk.drewN | with_reducible apply Blk.keep0 (hm := by with_reducible assumption) | with_reducible apply Blk.keep (hm := by with_reducible assumption) (hg := by omega) | with_reducible apply Blk.far (hp := by first | omega | (simp; done) | (simp; omega)) | with_reducible apply Blk.set1 | rfl)), (by repeat (first | with_reducible assumption | with_reducible apply Blk.new | with_reducible exact Blk.newAt (by first | rfl | (simp; done) | (simp; omega)) | with_reducible apply Blk.alloc | with_reducible apply Blk.drew | with_reducible apply Blk.drewN | with_reducible apply Blk.keep0 (hm := by with_reducible assumption) | with_reducible apply Blk.keep (hm := by with_reducible assumption) (hg := by omega) | with_reducible apply Blk.far (hp := by first | omega | (simp; done) | (simp; omega)) | with_reducible apply Blk.set1 | rfl)), (by repeat (first | with_reducible assumption | with_reducible apply Blk.new | with_reducible exact Blk.newAt (by first | rfl | (simp; done) | (simp; omega)) | with_reducible apply Blk.alloc | with_reducible apply Blk.drew | with_reducible apply Blk.drewN | with_reducible apply Blk.keep0 (hm := by with_reducible assumption) | with_reducible apply Blk.keep (hm := by with_reducible assumption) (hg := by omega) | with_reducible apply Blk.far (hp := by first | omega | (simp; done) | (simp; omega)) | with_reducible apply Blk.set1 | rfl)), (by repeat (first | with_reducible assumption | with_reducible apply Blk.new | with_reducible exact Blk.newAt (by first | rfl | (simp; done) | (simp; omega)) | with_reducible apply Blk.alloc | with_reducible apply Blk.drew | with_reducible apply Blk.drewN | with_reducible apply Blk.keep0 (hm := by with_reducible assumption) | with_reducible apply Blk.keep (hm := by with_reducible assumption) (hg := by omega) | with_reducible apply Blk.far (hp := by first | omega | (simp; done) | (simp; omega)) | with_reducible apply Blk.set1 | rfl)), (by repeat (first | with_reducible exact Mod.refl _ _ | with_reducible assumption | with_reducible refine Mod.alloc ?_ _ | with_reducible refine Mod.drew ?_ | with_reducible refine Mod.drewN ?_ _ | with_reducible refine Mod.setCell ?_ (by first | exact .inl rfl | (left; (try unfold from_); show _ ≤ _; first | omega | (simp; done) | (simp; omega)) | (right; first | omega | (simp; done) | (simp; omega))) _ | with_reducible refine Mod.call0 ?_ (by with_reducible assumption) | with_reducible refine Mod.call ?_ (by with_reducible assumption) (by rintro _ rfl; first | exact .inl rfl | (right; (first | omega | (simp; done) | (simp; omega))))))⟩
  case rest =>
    obtain ⟨p, q, rfl, rfl, h3, h4, h5, h6, hmc⟩ := hcut
    have c_h3 := h3.cell; have f_h3 := h3.frozen; have l_h3 := h3.lt; have c_h4 := h4.cell; have f_h4 := h4.frozen; have l_h4 := h4.lt; have c_h5 := h5.cell; have f_h5 := h5.frozen; have l_h5 := h5.lt; have c_h6 := h6.cell; have f_h6 := h6.frozen; have l_h6 := h6.lt
    go_wp2
    all_goals go_ret
    all_goals refine ⟨ret_bool ?_, (by repeat (first | with_reducible exact Mod.refl _ _ | with_reducible assumption | with_reducible refine Mod.alloc ?_ _ | with_reducible refine Mod.drew ?_ | with_reducible refine Mod.drewN ?_ _ | with_reducible refine Mod.setCell ?_ (by first | exact .inl rfl | (left; (try unfold from_); show _ ≤ _; first | omega | (simp; done) | (simp; omega)) | (right; first | omega | (simp; done) | (simp; omega))) _ | with_reducible refine Mod.call0 ?_ (by with_reducible assumption) | with_reducible refine Mod.call ?_ (by with_reducible assumption) (by rintro _ rfl; first | exact .inl rfl | (right; (first | omega | (simp; done) | (simp; omega))))))⟩
    all_goals (rw [beq_iff_eq, Bool.eq_iff_iff, beq_iff_eq, decide_eq_true_iff]; exact hK.out)

theorem karma_waits {me foe t wait : Int} (h : t ≤ 8 ∧ me + t < foe) : karmaK me foe t = 2 ∧ karmaS me foe t wait = forF 1 wait := by
  have hn : ¬ karmaA me foe t := fun x => x.elim (by omega) (by omega)
  exact ⟨if_neg hn, if_neg hn⟩
theorem karma_aborts {me foe t wait : Int} (h : ¬ (t ≤ 8 ∧ me + t < foe)) : karmaK me foe t = 1 ∧ karmaS me foe t wait = 0 := by
  have hn : karmaA me foe t := by unfold karmaA; omega
  exact ⟨if_pos hn, if_pos hn⟩
theorem forF_one {wait : Int} (h : 1 ≤ wait) : forF 1 wait = 1 := by
  unfold forF
  repeat' split
  all_goals omega

set_option maxHeartbeats 4000000 in
theorem law_karmaAlike (s0 s1 s2 s3 s4 a0 a1 a2 a3 : Int) (a4 : Bool) (b0 b1 b2 b3 : Int) (b4 : Bool) (wt n : Int) (w : World) (h0 : 0 ≤ wt) (h1 : wt ≤ 255) (hi : I64 s1) :
    Calls Try.prog 10 #[.agg #[.int .i64 s0, .int .i64 s1, .int .i64 s2, .int .i64 s3, .int .i64 s4], .agg #[.int .i64 a0, .int .i64 a1, .int .i64 a2, .int .i64 a3, .bool a4],
      .agg #[.int .i64 b0, .int .i64 b1, .int .i64 b2, .int .i64 b3, .bool b4], .int .u8 wt, .int .i64 n] w
     fun en w' => en = .returned (.bool true) ∧ Mod nowhere w w' := by
  have early : (1099511627776 < n ∨ n < -1099511627776 ∨ s1 < -1099511627776 ∨ 1099511627776 < a2 ∨ a2 < -1099511627776) ∨ (n ≤ 1099511627776 ∧ -1099511627776 ≤ n ∧ -1099511627776 ≤ s1 ∧ a2 ≤ 1099511627776 ∧ -1099511627776 ≤ a2) := by omega
  rcases early with h | ⟨g0, g1, g2, g3, g4⟩
  · go_enter Try.func10, Try.ntmps10
    go_wp2_with fail
    (with_reducible refine (alive7_calls _).mono ?_)
    rintro e w1 ⟨rfl, hbw1⟩
    have hzw1 := hbw1.size
    (try simp at hzw1)
    (try (have ltw10 : w.heap.size < w1.heap.size := (by omega); have lcw10 := fun o => hbw1.cell (b := w.heap.size) o (by first | omega | (simp; done) | (simp; omega)) (id); have lfw10 := fun o => hbw1.frozen (b := w.heap.size) o (by first | omega | (simp; done) | (simp; omega)) (id)))
    (try (have ltw11 : w.heap.size + 1 < w1.heap.size := (by omega); have lcw11 := fun o => hbw1.cell (b := w.heap.size + 1) o (by first | omega | (simp; done) | (simp; omega)) (id); have lfw11 := fun o => hbw1.frozen (b := w.heap.size + 1) o (by first | omega | (simp; done) | (simp; omega)) (id)))
    (try (have ltw12 : w.heap.size + 1 + 1 < w1.heap.size := (by omega); have lcw12 := fun o => hbw1.cell (b := w.heap.size + 1 + 1) o (by first | omega | (simp; done) | (simp; omega)) (id); have lfw12 := fun o => hbw1.frozen (b := w.heap.size + 1 + 1) o (by first | omega | (simp; done) | (simp; omega)) (id)))
    skip
    go_wp2
    all_goals first | (exfalso; omega) | skip
    all_goals go_ret
    all_goals exact ⟨rfl, (by repeat (first | with_reducible exact Mod.refl _ _ | with_reducible assumption | with_reducible refine Mod.alloc ?_ _ | with_reducible refine Mod.drew ?_ | with_reducible refine Mod.drewN ?_ _ | with_reducible refine Mod.setCell ?_ (by first | exact .inl rfl | (left; (try unfold from_); show _ ≤ _; first | omega | (simp; done) | (simp; omega)) | (right; first | omega | (simp; done) | (simp; omega))) _ | with_reducible refine Mod.call0 ?_ (by with_reducible assumption) | with_reducible refine Mod.call ?_ (by with_reducible assumption) (by rintro _ rfl; first | exact .inl rfl | (right; (first | omega | (simp; done) | (simp; omega))))))⟩
  have hs : Small a2 := small_of (by omega) (by omega)
  have ht : ∀ x b, Small (metF ⟨s0, s1, s2, s3, s4⟩ ⟨b0, x, b2, b3, b⟩).tries := by
    intro x b
    unfold metF moreF Small
    obtain ⟨h, _⟩ := hi
    split
    · simp only; split <;> omega
    · simp
  have hsame : ∀ x b, metF ⟨s0, s1, s2, s3, s4⟩ ⟨b0, x, b2, b3, b⟩ = metF ⟨s0, s1, s2, s3, s4⟩ ⟨b0, b1, b2, b3, b4⟩ := fun _ _ => rfl
  generalize hM : metF ⟨s0, s1, s2, s3, s4⟩ ⟨b0, b1, b2, b3, b4⟩ = m at hsame
  obtain ⟨m0, m1, m2, m3, m4⟩ := m
  have HM := hide hsame
  clear hsame hM
  have hwt : 0 ≤ wt % 64 ∧ wt % 64 < 64 := by omega
  have hok : okF (karmaK a2 b2 m1) (karmaS a2 b2 m1 (1 + wt % 64)) (1 + wt % 64) = true := by
    by_cases hc : m1 ≤ 8 ∧ a2 + m1 < b2
    · obtain ⟨e1, e2⟩ := karma_waits (wait := 1 + wt % 64) hc
      rw [e1, e2, forF_one (by omega)]; simp [okF]; omega
    · obtain ⟨e1, e2⟩ := karma_aborts (wait := 1 + wt % 64) hc
      rw [e1, e2]; simp [okF]
  have HO := hide hok
  clear hok
  go_enter Try.func10, Try.ntmps10
  go_wp2_with fail
  (with_reducible refine (alive7_calls _).mono ?_)
  rintro e w1 ⟨rfl, hbw1⟩
  have hzw1 := hbw1.size
  (try simp at hzw1)
  (try (have ltw10 : w.heap.size < w1.heap.size := (by omega); have lcw10 := fun o => hbw1.cell (b := w.heap.size) o (by first | omega | (simp; done) | (simp; omega)) (id); have lfw10 := fun o => hbw1.frozen (b := w.heap.size) o (by first | omega | (simp; done) | (simp; omega)) (id)))
  (try (have ltw11 : w.heap.size + 1 < w1.heap.size := (by omega); have lcw11 := fun o => hbw1.cell (b := w.heap.size + 1) o (by first | omega | (simp; done) | (simp; omega)) (id); have lfw11 := fun o => hbw1.frozen (b := w.heap.size + 1) o (by first | omega | (simp; done) | (simp; omega)) (id)))
  (try (have ltw12 : w.heap.size + 1 + 1 < w1.heap.size := (by omega); have lcw12 := fun o => hbw1.cell (b := w.heap.size + 1 + 1) o (by first | omega | (simp; done) | (simp; omega)) (id); have lfw12 := fun o => hbw1.frozen (b := w.heap.size + 1 + 1) o (by first | omega | (simp; done) | (simp; omega)) (id)))
  skip
  go_wp2_with fail
  (with_reducible refine (karma_calls s0 s1 s2 s3 s4 a0 a1 a2 a3 b0 b1 b2 b3 a4 b4 _ _ _ hi hs (ht _ _)).mono ?_)
  rintro en w2 ⟨rfl, hbw2⟩
  rw [HM.out]
  have hzw2 := hbw2.size
  (try simp at hzw2)
  (try (have ltw20 : w.heap.size < w2.heap.size := (by omega); have lcw20 := fun o => hbw2.cell (b := w.heap.size) o (by first | omega | (simp; done) | (simp; omega)) (id); have lfw20 := fun o => hbw2.frozen (b := w.heap.size) o (by first | omega | (simp; done) | (simp; omega)) (id)))
  (try (have ltw21 : w.heap.size + 1 < w2.heap.size := (by omega); have lcw21 := fun o => hbw2.cell (b := w.heap.size + 1) o (by first | omega | (simp; done) | (simp; omega)) (id); have lfw21 := fun o => hbw2.frozen (b := w.heap.size + 1) o (by first | omega | (simp; done) | (simp; omega)) (id)))
  (try (have ltw22 : w.heap.size + 1 + 1 < w2.heap.size := (by omega); have lcw22 := fun o => hbw2.cell (b := w.heap.size + 1 + 1) o (by first | omega | (simp; done) | (simp; omega)) (id); have lfw22 := fun o => hbw2.frozen (b := w.heap.size + 1 + 1) o (by first | omega | (simp; done) | (simp; omega)) (id)))
  generalize hK : karmaK a2 b2 m1 = K at HO ⊢
  generalize hS : karmaS a2 b2 m1 (1 + wt % 64) = S at HO ⊢
  have HK := hide hK
  have HS := hide hS
  clear hK hS
  go_wp2_with fail
  (with_reducible refine (karma_calls s0 s1 s2 s3 s4 _ _ a2 _ b0 _ b2 b3 _ _ _ _ _ hi hs (ht _ _)).mono ?_)
  rintro en w3 ⟨rfl, hbw3⟩
  simp only [HM.out, HK.out, HS.out]
  have hzw3 := hbw3.size
  (try simp at hzw3)
  (try (have ltw30 : w2.heap.size < w3.heap.size := (by omega); have lcw30 := fun o => hbw3.cell (b := w2.heap.size) o (by first | omega | (simp; done) | (simp; omega)) (id); have lfw30 := fun o => hbw3.frozen (b := w2.heap.size) o (by first | omega | (simp; done) | (simp; omega)) (id)))
  (try (have ltw31 : w2.heap.size + 1 < w3.heap.size := (by omega); have lcw31 := fun o => hbw3.cell (b := w2.heap.size + 1) o (by first | omega | (simp; done) | (simp; omega)) (id); have lfw31 := fun o => hbw3.frozen (b := w2.heap.size + 1) o (by first | omega | (simp; done) | (simp; omega)) (id)))
  go_wp2_with (go_at_call 27; (with_reducible refine (ok_calls _ _ _ _).mono ?_); rintro e w4 ⟨rfl, hbw4⟩; have hzw4 := hbw4.size; (try simp at hzw4); skip; rw [HO.out])
  all_goals go_ret
  all_goals exact ⟨rfl, (by repeat (first | with_reducible exact Mod.refl _ _ | with_reducible assumption | with_reducible refine Mod.alloc ?_ _ | with_reducible refine Mod.drew ?_ | with_reducible refine Mod.drewN ?_ _ | with_reducible refine Mod.setCell ?_ (by first | exact .inl rfl | (left; (try unfold from_); show _ ≤ _; first | omega | (simp; done) | (simp; omega)) | (right; first | omega | (simp; done) | (simp; omega))) _ | with_reducible refine Mod.call0 ?_ (by with_reducible assumption) | with_reducible refine Mod.call ?_ (by with_reducible assumption) (by rintro _ rfl; first | exact .inl rfl | (right; (first | omega | (simp; done) | (simp; omega))))))⟩
end Go.Proofs.Ytdbheagfnodfmaa
