/- The laws of layer 5, walked: a wait that may be; a pulse that stands. -/
import Derived.Test.YtdbheagfnodfmaaAlive5
import Derived.Deep.DeepCutAuto
import Derived.LoopTactic
import Derived.BigQuiet
import Derived.Deep.QuietTactic
namespace Go.Proofs.Ytdbheagfnodfmaa
open Go.RowKit

set_option maxHeartbeats 1000000 in
theorem law_choiceStands (a0 a1 a2 a3 : Int) (a4 : Bool) (wt other : Int) (w : World) (h0 : 0 ≤ wt) (h1 : wt ≤ 255) :
    Calls Try.prog 4 #[.agg #[.int .i64 a0, .int .i64 a1, .int .i64 a2, .int .i64 a3, .bool a4], .int .u8 wt, .int .i64 other] w
     fun en w' => en = .returned (.bool true) ∧ Mod nowhere w w' := by
  have i0 : I64 0 := by unfold I64; omega
  by_cases g : a0 < 0
  · go_enter Try.func4, Try.ntmps4
    go_wp2_with fail
    (with_reducible refine (alive5_calls _).mono ?_)
    rintro e w1 ⟨rfl, hbw1⟩
    have hzw1 := hbw1.size
    (try simp at hzw1)
    (try (have ltw10 : w.heap.size < w1.heap.size := (by omega); have lcw10 := fun o => hbw1.cell (b := w.heap.size) o (by first | omega | (simp; done) | (simp; omega)) (id); have lfw10 := fun o => hbw1.frozen (b := w.heap.size) o (by first | omega | (simp; done) | (simp; omega)) (id)))
    skip
    go_wp2
    go_ret
    exact ⟨rfl, (by repeat (first | with_reducible exact Mod.refl _ _ | with_reducible assumption | with_reducible refine Mod.alloc ?_ _ | with_reducible refine Mod.drew ?_ | with_reducible refine Mod.drewN ?_ _ | with_reducible refine Mod.setCell ?_ (by first | exact .inl rfl | (left; (try unfold from_); show _ ≤ _; first | omega | (simp; done) | (simp; omega)) | (right; first | omega | (simp; done) | (simp; omega))) _ | with_reducible refine Mod.call0 ?_ (by with_reducible assumption) | with_reducible refine Mod.call ?_ (by with_reducible assumption) (by first | (rintro _ rfl; first | exact .inl rfl | (right; (first | omega | (simp; done) | (simp; omega)))) | (rintro _ (rfl | rfl) <;> (right; (first | omega | (simp; done) | (simp; omega)))))))⟩
  have hM := hide (show metF ⟨-1, 0, 0, 0, 0⟩ ⟨a0, a1, a2, a3, a4⟩ = ⟨a0, 1, 0, a3, 0⟩ by simp [metF]; omega)
  go_enter Try.func4, Try.ntmps4
  go_wp2_with fail
  (with_reducible refine (alive5_calls _).mono ?_)
  rintro e w1 ⟨rfl, hbw1⟩
  have hzw1 := hbw1.size
  (try simp at hzw1)
  (try (have ltw10 : w.heap.size < w1.heap.size := (by omega); have lcw10 := fun o => hbw1.cell (b := w.heap.size) o (by first | omega | (simp; done) | (simp; omega)) (id); have lfw10 := fun o => hbw1.frozen (b := w.heap.size) o (by first | omega | (simp; done) | (simp; omega)) (id)))
  skip
  go_upto_region 5 with fail
  go_cut [7] (fun s7 wx => ∃ p : Nat, s7 = .pointer (some ⟨p, 0, none⟩) ∧ w.heap.size < p ∧ Blk wx p 23 #[.int .i64 a0, .int .i64 1, .int .i64 0, .int .i64 a3, .int .i64 0] ∧ Blk wx w.heap.size 25 #[.int .i64 a0, .int .i64 a1, .int .i64 a2, .int .i64 a3, .bool a4] ∧ Mod nowhere w wx)
  case first =>
    go_region_held3 (fun w' => w'.cell? ⟨w.heap.size, 0, none⟩ = some (.int .i64 a0) ∧ w'.cell? ⟨w.heap.size, 1, none⟩ = some (.int .i64 a1) ∧ w'.cell? ⟨w.heap.size, 2, none⟩ = some (.int .i64 a2) ∧ w'.cell? ⟨w.heap.size, 3, none⟩ = some (.int .i64 a3) ∧ w'.cell? ⟨w.heap.size, 4, none⟩ = some (.bool a4) ∧ Mod nowhere w1 w') ((repeat' apply And.intro) <;> first | (simp [*]; done) | (go_simp; done) | exact (by repeat (first | with_reducible exact Mod.refl _ _ | with_reducible assumption | with_reducible refine Mod.alloc ?_ _ | with_reducible refine Mod.drew ?_ | with_reducible refine Mod.drewN ?_ _ | with_reducible refine Mod.setCell ?_ (by first | exact .inl rfl | (left; (try unfold from_); show _ ≤ _; first | omega | (simp; done) | (simp; omega)) | (right; first | omega | (simp; done) | (simp; omega))) _ | with_reducible refine Mod.call0 ?_ (by with_reducible assumption) | with_reducible refine Mod.call ?_ (by with_reducible assumption) (by first | (rintro _ rfl; first | exact .inl rfl | (right; (first | omega | (simp; done) | (simp; omega)))) | (rintro _ (rfl | rfl) <;> (right; (first | omega | (simp; done) | (simp; omega)))))))) (first | (go_at_call 20; (with_reducible refine (fresh_calls _).mono ?_); rintro e w2 ⟨rfl, hbw2⟩; have hzw2 := hbw2.size; (try simp at hzw2); (try (have ltw20 : w.heap.size < w2.heap.size := (by omega); have lcw20 := fun o => hbw2.cell (b := w.heap.size) o (by first | omega | (simp; done) | (simp; omega)) (id); have lfw20 := fun o => hbw2.frozen (b := w.heap.size) o (by first | omega | (simp; done) | (simp; omega)) (id))); (try (have ltw21 : w1.heap.size < w2.heap.size := (by omega); have lcw21 := fun o => hbw2.cell (b := w1.heap.size) o (by first | omega | (simp; done) | (simp; omega)) (id); have lfw21 := fun o => hbw2.frozen (b := w1.heap.size) o (by first | omega | (simp; done) | (simp; omega)) (id))); skip) | (go_at_call 16; (with_reducible refine (met_calls _ _ _ _ _ _ _ _ _ _ _ i0).mono ?_); rintro e w3 ⟨rfl, hbw3⟩; have hzw3 := hbw3.size; (try simp at hzw3); (try (have ltw30 : w.heap.size < w3.heap.size := (by omega); have lcw30 := fun o => hbw3.cell (b := w.heap.size) o (by first | omega | (simp; done) | (simp; omega)) (id); have lfw30 := fun o => hbw3.frozen (b := w.heap.size) o (by first | omega | (simp; done) | (simp; omega)) (id))); (try (have ltw31 : w1.heap.size < w3.heap.size := (by omega); have lcw31 := fun o => hbw3.cell (b := w1.heap.size) o (by first | omega | (simp; done) | (simp; omega)) (id); have lfw31 := fun o => hbw3.frozen (b := w1.heap.size) o (by first | omega | (simp; done) | (simp; omega)) (id))); (try (have ltw32 : w2.heap.size < w3.heap.size := (by omega); have lcw32 := fun o => hbw3.cell (b := w2.heap.size) o (by first | omega | (simp; done) | (simp; omega)) (id); have lfw32 := fun o => hbw3.frozen (b := w2.heap.size) o (by first | omega | (simp; done) | (simp; omega)) (id))); simp only [hM.out]))
    all_goals
      go_wp2_with fail
      go_meet
      exact ⟨_, rfl, by first | omega | (simp; omega), (by repeat (first | with_reducible assumption | with_reducible apply Blk.new | with_reducible exact Blk.newAt (by first | rfl | (simp; done) | (simp; omega)) | with_reducible apply Blk.alloc | with_reducible apply Blk.drew | with_reducible apply Blk.drewN | with_reducible apply Blk.keep0 (hm := by with_reducible assumption) | with_reducible apply Blk.keep (hm := by with_reducible assumption) (hg := by first | omega | exact not_two (by omega) (by omega)) | with_reducible apply Blk.far (hp := by first | omega | (simp; done) | (simp; omega)) | with_reducible apply Blk.set1 | rfl)), (by repeat (first | with_reducible assumption | with_reducible apply Blk.new | with_reducible exact Blk.newAt (by first | rfl | (simp; done) | (simp; omega)) | with_reducible apply Blk.alloc | with_reducible apply Blk.drew | with_reducible apply Blk.drewN | with_reducible apply Blk.keep0 (hm := by with_reducible assumption) | with_reducible apply Blk.keep (hm := by with_reducible assumption) (hg := by first | omega | exact not_two (by omega) (by omega)) | with_reducible apply Blk.far (hp := by first | omega | (simp; done) | (simp; omega)) | with_reducible apply Blk.set1 | rfl)), (by repeat (first | with_reducible exact Mod.refl _ _ | with_reducible assumption | with_reducible refine Mod.alloc ?_ _ | with_reducible refine Mod.drew ?_ | with_reducible refine Mod.drewN ?_ _ | with_reducible refine Mod.setCell ?_ (by first | exact .inl rfl | (left; (try unfold from_); show _ ≤ _; first | omega | (simp; done) | (simp; omega)) | (right; first | omega | (simp; done) | (simp; omega))) _ | with_reducible refine Mod.call0 ?_ (by with_reducible assumption) | with_reducible refine Mod.call ?_ (by with_reducible assumption) (by first | (rintro _ rfl; first | exact .inl rfl | (right; (first | omega | (simp; done) | (simp; omega)))) | (rintro _ (rfl | rfl) <;> (right; (first | omega | (simp; done) | (simp; omega)))))))⟩
  case rest =>
    obtain ⟨p, rfl, hp, hs, hf, hmc⟩ := hcut
    go_wp2_with fail
    go_loopw [8, 9, 10] (fun s8 _ _ wx => ∃ k : Nat, s8 = .int .i64 ((k : Int) + 1) ∧ (k : Int) ≤ wt + 3 ∧ Blk wx p 23 #[.int .i64 a0, .int .i64 1, .int .i64 0, .int .i64 a3, .int .i64 k] ∧ Blk wx w.heap.size 25 #[.int .i64 a0, .int .i64 a1, .int .i64 a2, .int .i64 a3, .bool a4] ∧ Mod nowhere w wx)
      (fun s8 _ _ _ => (300 - (intOf s8)).toNat)
    case atStart => exact ⟨0, by simp, by omega, hs, hf, hmc⟩
    case round =>
      obtain ⟨k, rfl, hk, hs, hf, hmc⟩ := hrel
      have ik : I64 k := by unfold I64; omega
      have hL := hide (show lookF ⟨a0, 1, 0, a3, k⟩ a3 = ⟨a0, 1, 0, a3, (k : Int) + 1⟩ by simp [lookF, moreF]; omega)
      have c_hs := hs.cell; have f_hs := hs.frozen; have l_hs := hs.lt; have c_hf := hf.cell; have f_hf := hf.frozen; have l_hf := hf.lt
      by_cases hlt : (k : Int) + 1 ≤ wt + 3
      · go_wp2_with fail
        (with_reducible refine (look_calls _ _ _ _ _ _ _ _ ik).mono ?_)
        rintro e w5 ⟨rfl, hbw5⟩
        have hzw5 := hbw5.size
        (try simp at hzw5)
        (try (have ltw50 : p < w5.heap.size := (by omega); have lcw50 := fun o => hbw5.cell (b := p) o (by first | omega | (simp; done) | (simp; omega)) (id); have lfw50 := fun o => hbw5.frozen (b := p) o (by first | omega | (simp; done) | (simp; omega)) (id)))
        (try (have ltw51 : w.heap.size < w5.heap.size := (by omega); have lcw51 := fun o => hbw5.cell (b := w.heap.size) o (by first | omega | (simp; done) | (simp; omega)) (id); have lfw51 := fun o => hbw5.frozen (b := w.heap.size) o (by first | omega | (simp; done) | (simp; omega)) (id)))
        rw [hL.out]
        go_wp2
        go_roundw
        case rel => exact ⟨k + 1, by go_num, by omega, (by repeat (first | with_reducible assumption | with_reducible apply Blk.new | with_reducible exact Blk.newAt (by first | rfl | (simp; done) | (simp; omega)) | with_reducible apply Blk.alloc | with_reducible apply Blk.drew | with_reducible apply Blk.drewN | with_reducible apply Blk.keep0 (hm := by with_reducible assumption) | with_reducible apply Blk.keep (hm := by with_reducible assumption) (hg := by first | omega | exact not_two (by omega) (by omega)) | with_reducible apply Blk.far (hp := by first | omega | (simp; done) | (simp; omega)) | with_reducible apply Blk.set1 | rfl)), (by repeat (first | with_reducible assumption | with_reducible apply Blk.new | with_reducible exact Blk.newAt (by first | rfl | (simp; done) | (simp; omega)) | with_reducible apply Blk.alloc | with_reducible apply Blk.drew | with_reducible apply Blk.drewN | with_reducible apply Blk.keep0 (hm := by with_reducible assumption) | with_reducible apply Blk.keep (hm := by with_reducible assumption) (hg := by first | omega | exact not_two (by omega) (by omega)) | with_reducible apply Blk.far (hp := by first | omega | (simp; done) | (simp; omega)) | with_reducible apply Blk.set1 | rfl)), (by repeat (first | with_reducible exact Mod.refl _ _ | with_reducible assumption | with_reducible refine Mod.alloc ?_ _ | with_reducible refine Mod.drew ?_ | with_reducible refine Mod.drewN ?_ _ | with_reducible refine Mod.setCell ?_ (by first | exact .inl rfl | (left; (try unfold from_); show _ ≤ _; first | omega | (simp; done) | (simp; omega)) | (right; first | omega | (simp; done) | (simp; omega))) _ | with_reducible refine Mod.call0 ?_ (by with_reducible assumption) | with_reducible refine Mod.call ?_ (by with_reducible assumption) (by first | (rintro _ rfl; first | exact .inl rfl | (right; (first | omega | (simp; done) | (simp; omega)))) | (rintro _ (rfl | rfl) <;> (right; (first | omega | (simp; done) | (simp; omega)))))))⟩
        case measure => simp [intOf]; omega
      · have hkw : (k : Int) = wt + 3 := by omega
        by_cases ho : other = a3
        · subst ho
          clear hkw
          go_wp2
          go_ret
          exact ⟨rfl, (by repeat (first | with_reducible exact Mod.refl _ _ | with_reducible assumption | with_reducible refine Mod.alloc ?_ _ | with_reducible refine Mod.drew ?_ | with_reducible refine Mod.drewN ?_ _ | with_reducible refine Mod.setCell ?_ (by first | exact .inl rfl | (left; (try unfold from_); show _ ≤ _; first | omega | (simp; done) | (simp; omega)) | (right; first | omega | (simp; done) | (simp; omega))) _ | with_reducible refine Mod.call0 ?_ (by with_reducible assumption) | with_reducible refine Mod.call ?_ (by with_reducible assumption) (by first | (rintro _ rfl; first | exact .inl rfl | (right; (first | omega | (simp; done) | (simp; omega)))) | (rintro _ (rfl | rfl) <;> (right; (first | omega | (simp; done) | (simp; omega)))))))⟩
        · have q1 : (other == a3) = false := by simp [ho]
          have hL2 := hide (show lookF ⟨a0, 1, 0, a3, k⟩ other = ⟨a0, 1, 0, other, 0⟩ by unfold lookF; rw [if_neg (fun h => ho h.symm)])
          clear ho hkw
          have hd : decide (wt < 0) = false := decide_eq_false (by omega)
          go_wp2_with fail
          (with_reducible refine (look_calls _ _ _ _ _ _ _ _ ik).mono ?_)
          rintro e w5 ⟨rfl, hbw5⟩
          have hzw5 := hbw5.size
          (try simp at hzw5)
          (try (have ltw50 : p < w5.heap.size := (by omega); have lcw50 := fun o => hbw5.cell (b := p) o (by first | omega | (simp; done) | (simp; omega)) (id); have lfw50 := fun o => hbw5.frozen (b := p) o (by first | omega | (simp; done) | (simp; omega)) (id)))
          (try (have ltw51 : w.heap.size < w5.heap.size := (by omega); have lcw51 := fun o => hbw5.cell (b := w.heap.size) o (by first | omega | (simp; done) | (simp; omega)) (id); have lfw51 := fun o => hbw5.frozen (b := w.heap.size) o (by first | omega | (simp; done) | (simp; omega)) (id)))
          rw [hL2.out]
          go_wp2
          go_ret
          exact ⟨rfl, (by repeat (first | with_reducible exact Mod.refl _ _ | with_reducible assumption | with_reducible refine Mod.alloc ?_ _ | with_reducible refine Mod.drew ?_ | with_reducible refine Mod.drewN ?_ _ | with_reducible refine Mod.setCell ?_ (by first | exact .inl rfl | (left; (try unfold from_); show _ ≤ _; first | omega | (simp; done) | (simp; omega)) | (right; first | omega | (simp; done) | (simp; omega))) _ | with_reducible refine Mod.call0 ?_ (by with_reducible assumption) | with_reducible refine Mod.call ?_ (by with_reducible assumption) (by first | (rintro _ rfl; first | exact .inl rfl | (right; (first | omega | (simp; done) | (simp; omega)))) | (rintro _ (rfl | rfl) <;> (right; (first | omega | (simp; done) | (simp; omega)))))))⟩

def okB (kind steps wait : Int) : Bool := ((kind == 1 || kind == 3) && steps == 0) || (kind == 2 && decide (1 ≤ steps) && decide (steps ≤ wait))

set_option maxHeartbeats 1000000 in
theorem law_choiceOk (kind steps wait : Int) (w : World) :
    Calls Try.prog 8 #[.int .i64 kind, .int .i64 steps, .int .i64 wait] w
     fun en w' => en = .returned (.bool true) ∧ Mod nowhere w w' := by
  have hO := hide (show okF 2 (forF steps wait) wait = decide (1 ≤ wait) by
    unfold okF forF
    rw [if_neg (by omega), if_pos rfl]
    congr 1
    apply propext
    repeat' split
    all_goals omega)
  go_enter Try.func8, Try.ntmps8
  go_wp2_with fail
  (with_reducible refine (alive5_calls _).mono ?_)
  rintro e w1 ⟨rfl, hbw1⟩
  have hzw1 := hbw1.size
  (try simp at hzw1)
  skip
  skip
  go_wp2_with fail
  (with_reducible refine (for_calls _ _ _).mono ?_)
  rintro e w2 ⟨rfl, hbw2⟩
  have hzw2 := hbw2.size
  (try simp at hzw2)
  skip
  skip
  go_wp2_with fail
  go_region_held3 (fun w' => w'.cell? ⟨w2.heap.size, 0, none⟩ = some (.int .i64 2) ∧ w'.cell? ⟨w2.heap.size, 1, none⟩ = some (.int .i64 (forF steps wait)) ∧ Mod (from_ w2.heap.size) w2 w') ((repeat' apply And.intro) <;> first | (simp [*]; done) | (go_simp; done) | exact (by repeat (first | with_reducible exact Mod.refl _ _ | with_reducible assumption | with_reducible refine Mod.alloc ?_ _ | with_reducible refine Mod.drew ?_ | with_reducible refine Mod.drewN ?_ _ | with_reducible refine Mod.setCell ?_ (by first | exact .inl rfl | (left; (try unfold from_); show _ ≤ _; first | omega | (simp; done) | (simp; omega)) | (right; first | omega | (simp; done) | (simp; omega))) _ | with_reducible refine Mod.call0 ?_ (by with_reducible assumption) | with_reducible refine Mod.call ?_ (by with_reducible assumption) (by first | (rintro _ rfl; first | exact .inl rfl | (right; (first | omega | (simp; done) | (simp; omega)))) | (rintro _ (rfl | rfl) <;> (right; (first | omega | (simp; done) | (simp; omega)))))))) (first | (go_at_call 26; (with_reducible refine (steps_calls _ _ _).mono ?_); rintro e w' ⟨rfl, rfl⟩) | (go_at_call 27; (with_reducible refine (ok_calls _ _ _ _).mono ?_); rintro e w3 ⟨rfl, hbw3⟩; have hzw3 := hbw3.size; (try simp at hzw3); (try (have ltw30 : w2.heap.size < w3.heap.size := (by omega); have lcw30 := fun o => hbw3.cell (b := w2.heap.size) o (by first | omega | (simp; done) | (simp; omega)) (id); have lfw30 := fun o => hbw3.frozen (b := w2.heap.size) o (by first | omega | (simp; done) | (simp; omega)) (id))); rw [hO.out]))
  all_goals
    go_wp2_with (go_at_call 27; (with_reducible refine (ok_calls _ _ _ _).mono ?_); rintro e w9 ⟨rfl, hbw9⟩; have hzw9 := hbw9.size; (try simp at hzw9); skip; skip)
    all_goals go_ret
    all_goals refine ⟨ret_bool ?_, (by repeat (first | with_reducible exact Mod.refl _ _ | with_reducible assumption | with_reducible refine Mod.alloc ?_ _ | with_reducible refine Mod.drew ?_ | with_reducible refine Mod.drewN ?_ _ | with_reducible refine Mod.setCell ?_ (by first | exact .inl rfl | (left; (try unfold from_); show _ ≤ _; first | omega | (simp; done) | (simp; omega)) | (right; first | omega | (simp; done) | (simp; omega))) _ | with_reducible refine Mod.call0 ?_ (by with_reducible assumption) | with_reducible refine Mod.call ?_ (by with_reducible assumption) (by first | (rintro _ rfl; first | exact .inl rfl | (right; (first | omega | (simp; done) | (simp; omega)))) | (rintro _ (rfl | rfl) <;> (right; (first | omega | (simp; done) | (simp; omega)))))))⟩
    all_goals simp_all [okF]
end Go.Proofs.Ytdbheagfnodfmaa
