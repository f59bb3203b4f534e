/- Rows of tickets: the laws WordTickets and WordRows, walked. -/
import Derived.Test.YtkabgkkklegaoaaWord2
import Derived.Test.YtkabgkkklegaoaaB2
import Derived.LoopTactic
import Derived.Outline
namespace Go.Proofs.Ytkabgkkklegaoaa
open Go.RowKit

set_option maxHeartbeats 4000000 in
theorem law_wordTickets (m tk : Int) (w : World) (h0 : 0 ≤ tk) (h1 : tk ≤ 65535) :
    Calls Try.prog 11 #[.int .i64 m, .int .u16 tk] w
     fun en w' => en = .returned (.bool true) ∧ Mod nowhere w w' := by
  by_cases g0 : m < 0 ∨ 255 < m
  · go_enter Try.func11, Try.ntmps11
    go_wp2_with fail
    (with_reducible refine (alive1_calls _).mono ?_)
    rintro e w1 ⟨rfl, hbw1⟩
    have hzw1 := hbw1.size
    (try simp at hzw1)
    skip
    skip
    go_wp2_with fail
    (with_reducible refine (tnew_bad _ _ g0).mono ?_)
    rintro e w2 ⟨rfl, hbw2⟩
    have hzw2 := hbw2.size
    (try simp at hzw2)
    skip
    skip
    go_wp2
    all_goals first | (exfalso; omega) | skip
    all_goals go_ret
    all_goals exact ⟨rfl, (by repeat (first | with_reducible exact Mod.refl _ _ | with_reducible assumption | with_reducible refine Mod.alloc ?_ _ | with_reducible refine Mod.drew ?_ | with_reducible refine Mod.drewN ?_ _ | with_reducible refine Mod.setCell ?_ (by first | exact .inl rfl | (left; (try unfold from_); show _ ≤ _; first | omega | (simp; done) | (simp; omega)) | (right; first | omega | (simp; done) | (simp; omega))) _ | with_reducible refine Mod.call0 ?_ (by with_reducible assumption) | with_reducible refine Mod.call ?_ (by with_reducible assumption) (by rintro _ rfl; first | exact .inl rfl | (right; (first | omega | (simp; done) | (simp; omega))))))⟩
  have g1 : 0 ≤ m := by omega
  have g2 : m ≤ 255 := by omega
  clear g0
  have q1 : decide (m < 0) = false := by simp; omega
  have q2 : decide (255 < m) = false := by simp; omega
  have ht : 0 ≤ tk % 600 ∧ tk % 600 < 600 := by omega
  go_enter Try.func11, Try.ntmps11
  go_wp2_with fail
  (with_reducible refine (alive1_calls _).mono ?_)
  rintro e w1 ⟨rfl, hbw1⟩
  have hzw1 := hbw1.size
  (try simp at hzw1)
  skip
  skip
  go_wp2_with (go_at_call 31; (with_reducible refine (tnew_calls _ _ g1 g2).mono ?_); rintro e w' ⟨rfl, rfl⟩)
  go_loopw [7, 8, 9] (fun s7 _ _ wx => ∃ (k : Nat) (t : Int), s7 = .int .i64 k ∧ k ≤ 600 ∧ 0 ≤ t ∧ t ≤ k ∧ t ≤ m ∧ (t = k ∨ t = m) ∧ IsTick wx w1.heap.size t m ∧ Mod nowhere w wx)
    (fun s7 _ _ _ => (700 - (intOf s7)).toNat)
  case atStart => exact ⟨0, 0, rfl, Nat.zero_le _, by omega, by omega, by omega, .inl rfl, (by repeat (first | with_reducible assumption | with_reducible apply Blk.new | with_reducible exact Blk.newAt (by first | rfl | (simp; done) | (simp; omega)) | with_reducible apply Blk.alloc | with_reducible apply Blk.drew | with_reducible apply Blk.drewN | with_reducible apply Blk.keep0 (hm := by with_reducible assumption) | with_reducible apply Blk.keep (hm := by with_reducible assumption) (hg := by omega) | with_reducible apply Blk.far (hp := by first | omega | (simp; done) | (simp; omega)) | with_reducible apply Blk.set1 | rfl)), (by repeat (first | with_reducible exact Mod.refl _ _ | with_reducible assumption | with_reducible refine Mod.alloc ?_ _ | with_reducible refine Mod.drew ?_ | with_reducible refine Mod.drewN ?_ _ | with_reducible refine Mod.setCell ?_ (by first | exact .inl rfl | (left; (try unfold from_); show _ ≤ _; first | omega | (simp; done) | (simp; omega)) | (right; first | omega | (simp; done) | (simp; omega))) _ | with_reducible refine Mod.call0 ?_ (by with_reducible assumption) | with_reducible refine Mod.call ?_ (by with_reducible assumption) (by rintro _ rfl; first | exact .inl rfl | (right; (first | omega | (simp; done) | (simp; omega))))))⟩
  case round =>
    obtain ⟨k, t, rfl, hk, ht0, ht1, ht2, ht3, hw, hmr⟩ := hrel
    have c_hw := hw.cell; have f_hw := hw.frozen; have l_hw := hw.lt
    by_cases hlt : (k : Int) < tk % 600
    · by_cases hkm : (k : Int) < m
      · obtain rfl : t = k := by omega
        clear ht3
        have q3 : decide (m ≤ (k : Int)) = false := by simp; omega
        go_wp2_with (first | (go_at_call 29; (with_reducible refine (take_calls _ k m _ (by exact (by repeat (first | with_reducible assumption | with_reducible apply Blk.new | with_reducible exact Blk.newAt (by first | rfl | (simp; done) | (simp; omega)) | with_reducible apply Blk.alloc | with_reducible apply Blk.drew | with_reducible apply Blk.drewN | with_reducible apply Blk.keep0 (hm := by with_reducible assumption) | with_reducible apply Blk.keep (hm := by with_reducible assumption) (hg := by omega) | with_reducible apply Blk.far (hp := by first | omega | (simp; done) | (simp; omega)) | with_reducible apply Blk.set1 | rfl))) (by omega) (by omega) (by omega)).mono ?_); rintro e w5 ⟨rfl, hkw5, hbw5⟩; have hzw5 := hbw5.size; (try simp at hzw5); have ckw5 := hkw5.cell; have fkw5 := hkw5.frozen; have lkw5 := hkw5.lt; skip; skip) | (go_at_call 30; (with_reducible refine (taken_calls _ _ _ _ hkw5).mono ?_); rintro e w' ⟨rfl, rfl⟩))
        go_roundw
        case rel => exact ⟨k + 1, (k : Int) + 1, by go_num, by omega, by omega, by omega, by omega, .inl (by omega), (by repeat (first | with_reducible assumption | with_reducible apply Blk.new | with_reducible exact Blk.newAt (by first | rfl | (simp; done) | (simp; omega)) | with_reducible apply Blk.alloc | with_reducible apply Blk.drew | with_reducible apply Blk.drewN | with_reducible apply Blk.keep0 (hm := by with_reducible assumption) | with_reducible apply Blk.keep (hm := by with_reducible assumption) (hg := by omega) | with_reducible apply Blk.far (hp := by first | omega | (simp; done) | (simp; omega)) | with_reducible apply Blk.set1 | rfl)), (by repeat (first | with_reducible exact Mod.refl _ _ | with_reducible assumption | with_reducible refine Mod.alloc ?_ _ | with_reducible refine Mod.drew ?_ | with_reducible refine Mod.drewN ?_ _ | with_reducible refine Mod.setCell ?_ (by first | exact .inl rfl | (left; (try unfold from_); show _ ≤ _; first | omega | (simp; done) | (simp; omega)) | (right; first | omega | (simp; done) | (simp; omega))) _ | with_reducible refine Mod.call0 ?_ (by with_reducible assumption) | with_reducible refine Mod.call ?_ (by with_reducible assumption) (by rintro _ rfl; first | exact .inl rfl | (right; (first | omega | (simp; done) | (simp; omega))))))⟩
        case measure => simp [intOf] <;> omega
      · obtain rfl : t = m := by omega
        clear ht3
        have q3 : decide ((k : Int) < t) = false := by simp; omega
        go_wp2_with (first | (go_at_call 29; (with_reducible refine (take_none _ t t _ (by exact (by repeat (first | with_reducible assumption | with_reducible apply Blk.new | with_reducible exact Blk.newAt (by first | rfl | (simp; done) | (simp; omega)) | with_reducible apply Blk.alloc | with_reducible apply Blk.drew | with_reducible apply Blk.drewN | with_reducible apply Blk.keep0 (hm := by with_reducible assumption) | with_reducible apply Blk.keep (hm := by with_reducible assumption) (hg := by omega) | with_reducible apply Blk.far (hp := by first | omega | (simp; done) | (simp; omega)) | with_reducible apply Blk.set1 | rfl))) (by omega)).mono ?_); rintro e w5 ⟨rfl, hbw5⟩; have hzw5 := hbw5.size; (try simp at hzw5); (try (have ltw50 : w1.heap.size < w5.heap.size := (by omega); have lcw50 := fun o => hbw5.cell (b := w1.heap.size) o (by first | omega | (simp; done) | (simp; omega)) (id); have lfw50 := fun o => hbw5.frozen (b := w1.heap.size) o (by first | omega | (simp; done) | (simp; omega)) (id))); skip) | (go_at_call 30; (with_reducible refine (taken_calls _ t t _ (by exact (by repeat (first | with_reducible assumption | with_reducible apply Blk.new | with_reducible exact Blk.newAt (by first | rfl | (simp; done) | (simp; omega)) | with_reducible apply Blk.alloc | with_reducible apply Blk.drew | with_reducible apply Blk.drewN | with_reducible apply Blk.keep0 (hm := by with_reducible assumption) | with_reducible apply Blk.keep (hm := by with_reducible assumption) (hg := by omega) | with_reducible apply Blk.far (hp := by first | omega | (simp; done) | (simp; omega)) | with_reducible apply Blk.set1 | rfl)))).mono ?_); rintro e w' ⟨rfl, rfl⟩))
        go_roundw
        case rel => exact ⟨k + 1, t, by go_num, by omega, by omega, by omega, by omega, .inr rfl, (by repeat (first | with_reducible assumption | with_reducible apply Blk.new | with_reducible exact Blk.newAt (by first | rfl | (simp; done) | (simp; omega)) | with_reducible apply Blk.alloc | with_reducible apply Blk.drew | with_reducible apply Blk.drewN | with_reducible apply Blk.keep0 (hm := by with_reducible assumption) | with_reducible apply Blk.keep (hm := by with_reducible assumption) (hg := by omega) | with_reducible apply Blk.far (hp := by first | omega | (simp; done) | (simp; omega)) | with_reducible apply Blk.set1 | rfl)), (by repeat (first | with_reducible exact Mod.refl _ _ | with_reducible assumption | with_reducible refine Mod.alloc ?_ _ | with_reducible refine Mod.drew ?_ | with_reducible refine Mod.drewN ?_ _ | with_reducible refine Mod.setCell ?_ (by first | exact .inl rfl | (left; (try unfold from_); show _ ≤ _; first | omega | (simp; done) | (simp; omega)) | (right; first | omega | (simp; done) | (simp; omega))) _ | with_reducible refine Mod.call0 ?_ (by with_reducible assumption) | with_reducible refine Mod.call ?_ (by with_reducible assumption) (by rintro _ rfl; first | exact .inl rfl | (right; (first | omega | (simp; done) | (simp; omega))))))⟩
        case measure => simp [intOf] <;> omega
    · go_wp2
      go_ret
      exact ⟨rfl, (by repeat (first | with_reducible exact Mod.refl _ _ | with_reducible assumption | with_reducible refine Mod.alloc ?_ _ | with_reducible refine Mod.drew ?_ | with_reducible refine Mod.drewN ?_ _ | with_reducible refine Mod.setCell ?_ (by first | exact .inl rfl | (left; (try unfold from_); show _ ≤ _; first | omega | (simp; done) | (simp; omega)) | (right; first | omega | (simp; done) | (simp; omega))) _ | with_reducible refine Mod.call0 ?_ (by with_reducible assumption) | with_reducible refine Mod.call ?_ (by with_reducible assumption) (by rintro _ rfl; first | exact .inl rfl | (right; (first | omega | (simp; done) | (simp; omega))))))⟩
end Go.Proofs.Ytkabgkkklegaoaa
