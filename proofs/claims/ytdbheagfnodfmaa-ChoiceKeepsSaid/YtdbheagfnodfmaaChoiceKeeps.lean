/- Met and Look, again and again: the law ChoiceKeeps, walked. -/
import Derived.Test.YtdbheagfnodfmaaLawsChoice
import Derived.Test.YtdbheagfnodfmaaSides
import Derived.LoopTactic
import Derived.IntWalk
import Derived.StillTailTactics
import Derived.Deep.AppendLies
import Derived.Deep.RegionLaw
namespace Go.Proofs.Ytdbheagfnodfmaa
open Go.RowKit

set_option maxRecDepth 100000 in
set_option maxHeartbeats 4000000 in
theorem law_choiceKeeps (yl : Int) (A : Option Addr) (n c : Nat) (l : List Sd) (wt : Int) (w : World) (hl : l.length = n) (hr : SideRow w w.heap.size A n l) :
    Calls Try.prog 5 #[.int .i64 yl, .slice A n c, .int .i64 wt] w
     fun en w' => en = .returned (.bool true) ∧ Mod nowhere w w' := by
  have early : 100 < n ∨ n ≤ 100 := by omega
  rcases early with h | g0
  · go_enter Try.func5, Try.ntmps5
    go_wp2_with fail
    (with_reducible refine (alive5_calls _).mono ?_)
    rintro e w1 ⟨rfl, hbw1⟩
    have hzw1 := hbw1.size
    (try simp at hzw1)
    skip
    skip
    go_wp2
    all_goals first | (exfalso; omega) | skip
    all_goals go_ret
    all_goals exact ⟨rfl, (by repeat (first | with_reducible exact Mod.refl _ _ | with_reducible assumption | with_reducible refine Mod.alloc ?_ _ | with_reducible refine Mod.drew ?_ | with_reducible refine Mod.drewN ?_ _ | with_reducible refine Mod.setCell ?_ (by first | exact .inl rfl | (left; (try unfold from_); show _ ≤ _; first | omega | (simp; done) | (simp; omega)) | (right; first | omega | (simp; done) | (simp; omega))) _ | with_reducible refine Mod.call0 ?_ (by with_reducible assumption) | with_reducible refine Mod.call ?_ (by with_reducible assumption) (by first | (rintro _ rfl; first | exact .inl rfl | (right; (first | omega | (simp; done) | (simp; omega)))) | (rintro _ (rfl | rfl) <;> (right; (first | omega | (simp; done) | (simp; omega)))))))⟩
  have HR := hide hr
  have HL := hide hl
  clear hr hl
  go_enter Try.func5, Try.ntmps5
  go_wp2_with fail
  (with_reducible refine (alive5_calls _).mono ?_)
  rintro e w1 ⟨rfl, hbw1⟩
  have hzw1 := hbw1.size
  (try simp at hzw1)
  skip
  skip
  go_wp2_with fail
  (with_reducible refine (fresh_calls _).mono ?_)
  rintro e w2 ⟨rfl, hbw2⟩
  have hzw2 := hbw2.size
  (try simp at hzw2)
  skip
  skip
  go_wp2_with fail
  go_loopw [8, 9, 10, 11] (fun s8 s9 _ _ wx => ∃ (k : Nat) (run f p L : Int), s8 = .int .i64 run ∧ s9 = .int .i64 k ∧ k ≤ n ∧ ((k = 0 ∧ f = -1 ∧ run = 0) ∨ (∃ j x, k = j + 1 ∧ l[j]? = some x ∧ x.id = f ∧ 0 ≤ f ∧ 1 ≤ run ∧ run ≤ k)) ∧ I64 L ∧ Blk wx w2.heap.size 23 #[.int .i64 f, .int .i64 run, .int .i64 yl, .int .i64 p, .int .i64 L] ∧ Mod nowhere w wx)
    (fun _ s9 _ _ _ => (300 - (intOf s9)).toNat)
  case atStart =>
    refine ⟨0, 0, -1, 0, 0, rfl, rfl, Nat.zero_le _, .inl ⟨rfl, rfl, rfl⟩, by unfold I64; omega, ?_, (by repeat (first | with_reducible exact Mod.refl _ _ | with_reducible assumption | with_reducible refine Mod.alloc ?_ _ | with_reducible refine Mod.drew ?_ | with_reducible refine Mod.drewN ?_ _ | with_reducible refine Mod.setCell ?_ (by first | exact .inl rfl | (left; (try unfold from_); show _ ≤ _; first | omega | (simp; done) | (simp; omega)) | (right; first | omega | (simp; done) | (simp; omega))) _ | with_reducible refine Mod.call0 ?_ (by with_reducible assumption) | with_reducible refine Mod.call ?_ (by with_reducible assumption) (by first | (rintro _ rfl; first | exact .inl rfl | (right; (first | omega | (simp; done) | (simp; omega)))) | (rintro _ (rfl | rfl) <;> (right; (first | omega | (simp; done) | (simp; omega)))))))⟩
    show Blk _ _ _ #[.int .i64 (-1), .int .i64 0, .int .i64 yl, .int .i64 0, .int .i64 0]
    exact (by repeat (first | with_reducible assumption | with_reducible apply Blk.new | with_reducible exact Blk.newAt (by first | rfl | (simp; done) | (simp; omega)) | with_reducible apply Blk.alloc | with_reducible apply Blk.drew | with_reducible apply Blk.drewN | with_reducible apply Blk.keep0 (hm := by with_reducible assumption) | with_reducible apply Blk.keep (hm := by with_reducible assumption) (hg := by first | omega | exact not_two (by omega) (by omega)) | with_reducible apply Blk.far (hp := by first | omega | (simp; done) | (simp; omega)) | with_reducible apply Blk.set1 | rfl))
  case round =>
    obtain ⟨k, run, f, p, L, rfl, rfl, hk, hst, iL, hb1, hmr⟩ := hrel
    by_cases hlt : k < n
    · obtain ⟨b, o, rfl, hbl, hcell⟩ := HR.out (by omega)
      have hd : l[k]? = some (l[k]'(by have := HL.out; omega)) := List.getElem?_eq_getElem (by have := HL.out; omega)
      generalize hX : l[k]'(by have := HL.out; omega) = X at hd
      obtain ⟨e0, e1, e2, e3, e4⟩ := X
      have hX' := hide hd
      obtain ⟨c0, c1, c2, c3, c4⟩ := hcell k _ hd
      have d0 := (hmr.cell (o + (k * 5 + 0)) hbl (fun x => x)).trans c0
      have d1 := (hmr.cell (o + (k * 5 + 1)) hbl (fun x => x)).trans c1
      have d2 := (hmr.cell (o + (k * 5 + 2)) hbl (fun x => x)).trans c2
      have d3 := (hmr.cell (o + (k * 5 + 3)) hbl (fun x => x)).trans c3
      have d4 := (hmr.cell (o + (k * 5 + 4)) hbl (fun x => x)).trans c4
      simp only [Nat.add_zero] at d0 d1 d2 d3 d4
      have q1 := d1
      have q2 := d2
      have q3 := d3
      have q4 := d4
      simp only [← Nat.add_assoc] at q1 q2 q3 q4
      clear hX hd c0 c1 c2 c3 c4
      have hbr : b < wr.heap.size := by have := hmr.size; omega
      have ik : I64 k := by unfold I64; omega
      by_cases g1 : e0 < 0
      · have c_hb1 := hb1.cell; have f_hb1 := hb1.frozen; have l_hb1 := hb1.lt
        go_wp2
        go_ret
        exact ⟨rfl, (by repeat (first | with_reducible exact Mod.refl _ _ | with_reducible assumption | with_reducible refine Mod.alloc ?_ _ | with_reducible refine Mod.drew ?_ | with_reducible refine Mod.drewN ?_ _ | with_reducible refine Mod.setCell ?_ (by first | exact .inl rfl | (left; (try unfold from_); show _ ≤ _; first | omega | (simp; done) | (simp; omega)) | (right; first | omega | (simp; done) | (simp; omega))) _ | with_reducible refine Mod.call0 ?_ (by with_reducible assumption) | with_reducible refine Mod.call ?_ (by with_reducible assumption) (by first | (rintro _ rfl; first | exact .inl rfl | (right; (first | omega | (simp; done) | (simp; omega)))) | (rintro _ (rfl | rfl) <;> (right; (first | omega | (simp; done) | (simp; omega)))))))⟩
      rcases hst with ⟨rfl, rfl, rfl⟩ | ⟨j, x, hkj, hj, z0, z1, z2, z3⟩
      · simp only [Nat.zero_mul, Nat.zero_add, Nat.add_zero] at d0 d1 d2 d3 d4
        clear q1 q2 q3 q4
        have c_hb1 := hb1.cell; have f_hb1 := hb1.frozen; have l_hb1 := hb1.lt
        go_upto_region 14 with fail
        go_region
        have hM : ∃ P2 L2 L3 : Int, metF ⟨-1, 0, yl, p, L⟩ ⟨e0, e1, e2, e3, e4⟩ = ⟨e0, 1, yl, P2, L2⟩ ∧ I64 L2 ∧ lookF ⟨e0, 1, yl, P2, L2⟩ e3 = ⟨e0, 1, yl, e3, L3⟩ ∧ I64 L3 := by
          have look : ∀ P2 L2, I64 L2 → ∃ L3, lookF ⟨e0, 1, yl, P2, L2⟩ e3 = ⟨e0, 1, yl, e3, L3⟩ ∧ I64 L3 := by
            intro P2 L2 i2
            unfold lookF
            by_cases hp : P2 = e3
            · subst hp; exact ⟨moreF L2, if_pos rfl, moreF_i64 i2⟩
            · exact ⟨0, if_neg hp, by unfold I64; omega⟩
          refine ⟨e3, 0, ?_⟩
          obtain ⟨L3, hN, i3⟩ := look e3 0 (by unfold I64; omega)
          exact ⟨L3, if_neg (by simp only; omega), by unfold I64; omega, hN, i3⟩
        obtain ⟨P2, L2, L3, hM, i2, hN, i3⟩ := hM
        have HM := hide hM
        have HN := hide hN
        clear hM hN
        go_upto_region 16 with fail
        go_cut [55] (fun _ wx => Blk wx w2.heap.size 23 #[.int .i64 e0, .int .i64 (1), .int .i64 yl, .int .i64 P2, .int .i64 L2] ∧ Mod nowhere w wx)
        case first =>
          go_region_law (first | (go_simp; (go_at_call 16; (with_reducible refine (met_calls _ _ _ _ _ _ _ _ _ _ _ (by unfold I64; omega)).mono ?_); rintro e w5 ⟨rfl, hbw5⟩; have hzw5 := hbw5.size; (try simp at hzw5); (try (have ltw50 : w2.heap.size < w5.heap.size := (by omega); have lcw50 := fun o => hbw5.cell (b := w2.heap.size) o (by first | omega | (simp; done) | (simp; omega)) (id); have lfw50 := fun o => hbw5.frozen (b := w2.heap.size) o (by first | omega | (simp; done) | (simp; omega)) (id))); (try (have ltw51 : b < w5.heap.size := (by omega); have lcw51 := fun o => hbw5.cell (b := b) o (by first | omega | (simp; done) | (simp; omega)) (id); have lfw51 := fun o => hbw5.frozen (b := b) o (by first | omega | (simp; done) | (simp; omega)) (id))); rw [HM.out])))
          all_goals
            go_wp2_with fail
            go_meet
          all_goals exact ⟨(by repeat (first | with_reducible assumption | with_reducible apply Blk.new | with_reducible exact Blk.newAt (by first | rfl | (simp; done) | (simp; omega)) | with_reducible apply Blk.alloc | with_reducible apply Blk.drew | with_reducible apply Blk.drewN | with_reducible apply Blk.keep0 (hm := by with_reducible assumption) | with_reducible apply Blk.keep (hm := by with_reducible assumption) (hg := by first | omega | exact not_two (by omega) (by omega)) | with_reducible apply Blk.far (hp := by first | omega | (simp; done) | (simp; omega)) | with_reducible apply Blk.set1 | rfl)), (by repeat (first | with_reducible exact Mod.refl _ _ | with_reducible assumption | with_reducible refine Mod.alloc ?_ _ | with_reducible refine Mod.drew ?_ | with_reducible refine Mod.drewN ?_ _ | with_reducible refine Mod.setCell ?_ (by first | exact .inl rfl | (left; (try unfold from_); show _ ≤ _; first | omega | (simp; done) | (simp; omega)) | (right; first | omega | (simp; done) | (simp; omega))) _ | with_reducible refine Mod.call0 ?_ (by with_reducible assumption) | with_reducible refine Mod.call ?_ (by with_reducible assumption) (by first | (rintro _ rfl; first | exact .inl rfl | (right; (first | omega | (simp; done) | (simp; omega)))) | (rintro _ (rfl | rfl) <;> (right; (first | omega | (simp; done) | (simp; omega)))))))⟩
        case rest =>
          obtain ⟨h9, hmc⟩ := hcut
          clear d0 d1 d2 d3 d4
          (try clear q1 q2 q3 q4 y0)
          have c_h9 := h9.cell; have f_h9 := h9.frozen; have l_h9 := h9.lt
          have hbc : b < wc.heap.size := by have := hmc.size; omega
          obtain ⟨c0, c1, c2, c3, c4⟩ := hcell 0 _ hX'.out
          have d0 := (hmc.cell (o + (0 * 5 + 0)) hbl (fun x => x)).trans c0
          have d1 := (hmc.cell (o + (0 * 5 + 1)) hbl (fun x => x)).trans c1
          have d2 := (hmc.cell (o + (0 * 5 + 2)) hbl (fun x => x)).trans c2
          have d3 := (hmc.cell (o + (0 * 5 + 3)) hbl (fun x => x)).trans c3
          have d4 := (hmc.cell (o + (0 * 5 + 4)) hbl (fun x => x)).trans c4
          clear c0 c1 c2 c3 c4
          simp only [Nat.zero_mul, Nat.zero_add, Nat.add_zero] at d0 d1 d2 d3 d4
          go_upto_region 17 with fail
          go_region
          all_goals go_upto_region 19 with fail
          go_cut [10, 11] (fun s10 s11 wx => ∃ p10 : Nat, s10 = .pointer (some ⟨p10, 0, none⟩) ∧ Blk wx p10 23 #[.int .i64 e0, .int .i64 (1), .int .i64 yl, .int .i64 e3, .int .i64 L3] ∧ Blk wx w2.heap.size 23 #[.int .i64 e0, .int .i64 (1), .int .i64 yl, .int .i64 P2, .int .i64 L2] ∧ p10 ≠ w2.heap.size ∧ Mod nowhere w wx)
          case first =>
            go_region_held3 (fun w' => w'.cell? ⟨w2.heap.size, 0, none⟩ = some (.int .i64 e0) ∧ w'.cell? ⟨w2.heap.size, 1, none⟩ = some (.int .i64 (1)) ∧ w'.cell? ⟨w2.heap.size, 2, none⟩ = some (.int .i64 yl) ∧ w'.cell? ⟨w2.heap.size, 3, none⟩ = some (.int .i64 P2) ∧ w'.cell? ⟨w2.heap.size, 4, none⟩ = some (.int .i64 L2) ∧ w'.cell? ⟨b, o, none⟩ = some (.int .i64 e0) ∧ w'.cell? ⟨b, o + 1, none⟩ = some (.int .i64 e1) ∧ w'.cell? ⟨b, o + 2, none⟩ = some (.int .i64 e2) ∧ w'.cell? ⟨b, o + 3, none⟩ = some (.int .i64 e3) ∧ w'.cell? ⟨b, o + 4, none⟩ = some (.bool e4) ∧ Mod nowhere wc w') ((repeat' apply And.intro) <;> first | (simp [*]; done) | (go_simp; done) | exact (by repeat (first | with_reducible exact Mod.refl _ _ | with_reducible assumption | with_reducible refine Mod.alloc ?_ _ | with_reducible refine Mod.drew ?_ | with_reducible refine Mod.drewN ?_ _ | with_reducible refine Mod.setCell ?_ (by first | exact .inl rfl | (left; (try unfold from_); show _ ≤ _; first | omega | (simp; done) | (simp; omega)) | (right; first | omega | (simp; done) | (simp; omega))) _ | with_reducible refine Mod.call0 ?_ (by with_reducible assumption) | with_reducible refine Mod.call ?_ (by with_reducible assumption) (by first | (rintro _ rfl; first | exact .inl rfl | (right; (first | omega | (simp; done) | (simp; omega)))) | (rintro _ (rfl | rfl) <;> (right; (first | omega | (simp; done) | (simp; omega)))))))) (first | (go_at_call 18; (with_reducible refine (look_calls _ _ _ _ _ _ _ _ i2).mono ?_); rintro e w6 ⟨rfl, hbw6⟩; have hzw6 := hbw6.size; (try simp at hzw6); (try (have ltw60 : w2.heap.size < w6.heap.size := (by omega); have lcw60 := fun o => hbw6.cell (b := w2.heap.size) o (by first | omega | (simp; done) | (simp; omega)) (id); have lfw60 := fun o => hbw6.frozen (b := w2.heap.size) o (by first | omega | (simp; done) | (simp; omega)) (id))); (try (have ltw61 : b < w6.heap.size := (by omega); have lcw61 := fun o => hbw6.cell (b := b) o (by first | omega | (simp; done) | (simp; omega)) (id); have lfw61 := fun o => hbw6.frozen (b := b) o (by first | omega | (simp; done) | (simp; omega)) (id))); (try (have ltw62 : wc.heap.size < w6.heap.size := (by omega); have lcw62 := fun o => hbw6.cell (b := wc.heap.size) o (by first | omega | (simp; done) | (simp; omega)) (id); have lfw62 := fun o => hbw6.frozen (b := wc.heap.size) o (by first | omega | (simp; done) | (simp; omega)) (id))); rw [HN.out]))
            all_goals
              go_wp2_with fail
              go_meet
            all_goals exact ⟨_, rfl, (by repeat (first | with_reducible assumption | with_reducible apply Blk.new | with_reducible exact Blk.newAt (by first | rfl | (simp; done) | (simp; omega)) | with_reducible apply Blk.alloc | with_reducible apply Blk.drew | with_reducible apply Blk.drewN | with_reducible apply Blk.keep0 (hm := by with_reducible assumption) | with_reducible apply Blk.keep (hm := by with_reducible assumption) (hg := by first | omega | exact not_two (by omega) (by omega)) | with_reducible apply Blk.far (hp := by first | omega | (simp; done) | (simp; omega)) | with_reducible apply Blk.set1 | rfl)), (by repeat (first | with_reducible assumption | with_reducible apply Blk.new | with_reducible exact Blk.newAt (by first | rfl | (simp; done) | (simp; omega)) | with_reducible apply Blk.alloc | with_reducible apply Blk.drew | with_reducible apply Blk.drewN | with_reducible apply Blk.keep0 (hm := by with_reducible assumption) | with_reducible apply Blk.keep (hm := by with_reducible assumption) (hg := by first | omega | exact not_two (by omega) (by omega)) | with_reducible apply Blk.far (hp := by first | omega | (simp; done) | (simp; omega)) | with_reducible apply Blk.set1 | rfl)), by first | omega | (simp; omega), (by repeat (first | with_reducible exact Mod.refl _ _ | with_reducible assumption | with_reducible refine Mod.alloc ?_ _ | with_reducible refine Mod.drew ?_ | with_reducible refine Mod.drewN ?_ _ | with_reducible refine Mod.setCell ?_ (by first | exact .inl rfl | (left; (try unfold from_); show _ ≤ _; first | omega | (simp; done) | (simp; omega)) | (right; first | omega | (simp; done) | (simp; omega))) _ | with_reducible refine Mod.call0 ?_ (by with_reducible assumption) | with_reducible refine Mod.call ?_ (by with_reducible assumption) (by first | (rintro _ rfl; first | exact .inl rfl | (right; (first | omega | (simp; done) | (simp; omega)))) | (rintro _ (rfl | rfl) <;> (right; (first | omega | (simp; done) | (simp; omega)))))))⟩
          case rest =>
            obtain ⟨p10, rfl, h10, h9', n10, hmd⟩ := hcut
            clear d0 d1 d2 d3 d4
            have c_h10 := h10.cell; have f_h10 := h10.frozen; have l_h10 := h10.lt; have c_h9' := h9'.cell; have f_h9' := h9'.frozen; have l_h9' := h9'.lt
            have hbd : b < wc.heap.size := by have := hmd.size; omega
            obtain ⟨c0, c1, c2, c3, c4⟩ := hcell 0 _ hX'.out
            have d0 := (hmd.cell (o + (0 * 5 + 0)) hbl (fun x => x)).trans c0
            have d1 := (hmd.cell (o + (0 * 5 + 1)) hbl (fun x => x)).trans c1
            have d2 := (hmd.cell (o + (0 * 5 + 2)) hbl (fun x => x)).trans c2
            have d3 := (hmd.cell (o + (0 * 5 + 3)) hbl (fun x => x)).trans c3
            have d4 := (hmd.cell (o + (0 * 5 + 4)) hbl (fun x => x)).trans c4
            clear c0 c1 c2 c3 c4
            simp only [Nat.zero_mul, Nat.zero_add, Nat.add_zero] at d0 d1 d2 d3 d4
            go_upto_region 20 with fail
            go_region
            all_goals
             go_wp2
             go_roundw
             case rel => exact ⟨0 + 1, 1, e0, e3, L3, rfl, congrArg (Value.int .i64) (by omega), by omega, .inr ⟨_, _, rfl, hX'.out, rfl, by omega, by omega, by omega⟩, i3, (by repeat (first | with_reducible assumption | with_reducible apply Blk.new | with_reducible exact Blk.newAt (by first | rfl | (simp; done) | (simp; omega)) | with_reducible apply Blk.alloc | with_reducible apply Blk.drew | with_reducible apply Blk.drewN | with_reducible apply Blk.keep0 (hm := by with_reducible assumption) | with_reducible apply Blk.keep (hm := by with_reducible assumption) (hg := by first | omega | exact not_two (by omega) (by omega)) | with_reducible apply Blk.far (hp := by first | omega | (simp; done) | (simp; omega)) | with_reducible apply Blk.set1 | rfl)), (by repeat (first | with_reducible exact Mod.refl _ _ | with_reducible assumption | with_reducible refine Mod.alloc ?_ _ | with_reducible refine Mod.drew ?_ | with_reducible refine Mod.drewN ?_ _ | with_reducible refine Mod.setCell ?_ (by first | exact .inl rfl | (left; (try unfold from_); show _ ≤ _; first | omega | (simp; done) | (simp; omega)) | (right; first | omega | (simp; done) | (simp; omega))) _ | with_reducible refine Mod.call0 ?_ (by with_reducible assumption) | with_reducible refine Mod.call ?_ (by with_reducible assumption) (by first | (rintro _ rfl; first | exact .inl rfl | (right; (first | omega | (simp; done) | (simp; omega)))) | (rintro _ (rfl | rfl) <;> (right; (first | omega | (simp; done) | (simp; omega)))))))⟩
             case measure => simp [intOf]
      · obtain ⟨f', x1, x2, x3, x4⟩ := x
        simp only at z0
        subst z0
        have y0 := (hmr.cell (o + (j * 5 + 0)) hbl (fun x => x)).trans (hcell j _ hj).1
        simp only [Nat.add_zero] at y0
        have bj1 : (0 : Int) ≤ (j : Int) := by omega
        have bj2 : (j : Int) < (n : Int) := by omega
        have bk1 : (0 : Int) ≤ (k : Int) := by omega
        have bk2 : (k : Int) < (n : Int) := by omega
        have bk3 : ¬ ((k : Int) = 0) := by omega
        have HW := hide (show IntKind.i64.wrap ((k : Int) - 1) = (j : Int) from (IntWalk.i64_in _ (by omega)).trans (by omega))
        clear hkj
        simp only [← Nat.add_assoc] at d0 d1 d2 d3 d4
        by_cases hc : e0 = f'
        · subst hc
          have c_hb1 := hb1.cell; have f_hb1 := hb1.frozen; have l_hb1 := hb1.lt
          go_upto_region 14 with fail
          have wj := HW.out
          clear q1 q2 q3 q4
          have bk4 : ((k : Int) == 0) = false := beq_eq_false_iff_ne.2 (by omega)
          refine wp_region_still_lit (by kernel_rfl) (by kernel_rfl) ?_
          change wpStill _ _ wr.drew _ _ _
          iterate 16 (with_reducible refine wpStill_step (fun K hK => ?_); go_simp; with_reducible refine hK _ ?_; clear hK K)
          with_reducible refine wpStill_nil ?_
          rw [show ({ wr with drawn := wr.drawn + 1 } : World) = wr.drew from rfl]
          clear wj
          have hM : ∃ P2 L2 L3 : Int, metF ⟨e0, run, yl, p, L⟩ ⟨e0, e1, e2, e3, e4⟩ = ⟨e0, run + 1, yl, P2, L2⟩ ∧ I64 L2 ∧ lookF ⟨e0, run + 1, yl, P2, L2⟩ e3 = ⟨e0, run + 1, yl, e3, L3⟩ ∧ I64 L3 := by
            have look : ∀ P2 L2, I64 L2 → ∃ L3, lookF ⟨e0, run + 1, yl, P2, L2⟩ e3 = ⟨e0, run + 1, yl, e3, L3⟩ ∧ I64 L3 := by
              intro P2 L2 i2
              unfold lookF
              by_cases hp : P2 = e3
              · subst hp; exact ⟨moreF L2, if_pos rfl, moreF_i64 i2⟩
              · exact ⟨0, if_neg hp, by unfold I64; omega⟩
            refine ⟨p, L, ?_⟩
            obtain ⟨L3, hN, i3⟩ := look p L iL
            exact ⟨L3, by unfold metF moreF; rw [if_pos rfl]; simp; omega, iL, hN, i3⟩
          obtain ⟨P2, L2, L3, hM, i2, hN, i3⟩ := hM
          have HM := hide hM
          have HN := hide hN
          clear hM hN
          go_upto_region 16 with fail
          go_cut [55] (fun _ wx => Blk wx w2.heap.size 23 #[.int .i64 e0, .int .i64 (run + 1), .int .i64 yl, .int .i64 P2, .int .i64 L2] ∧ Mod nowhere w wx)
          case first =>
            go_region_law (first | (go_simp; (go_at_call 16; (with_reducible refine (met_calls _ _ _ _ _ _ _ _ _ _ _ (by unfold I64; omega)).mono ?_); rintro e w5 ⟨rfl, hbw5⟩; have hzw5 := hbw5.size; (try simp at hzw5); (try (have ltw50 : w2.heap.size < w5.heap.size := (by omega); have lcw50 := fun o => hbw5.cell (b := w2.heap.size) o (by first | omega | (simp; done) | (simp; omega)) (id); have lfw50 := fun o => hbw5.frozen (b := w2.heap.size) o (by first | omega | (simp; done) | (simp; omega)) (id))); (try (have ltw51 : b < w5.heap.size := (by omega); have lcw51 := fun o => hbw5.cell (b := b) o (by first | omega | (simp; done) | (simp; omega)) (id); have lfw51 := fun o => hbw5.frozen (b := b) o (by first | omega | (simp; done) | (simp; omega)) (id))); rw [HM.out])))
            all_goals
              go_wp2_with fail
              go_meet
            all_goals exact ⟨(by repeat (first | with_reducible assumption | with_reducible apply Blk.new | with_reducible exact Blk.newAt (by first | rfl | (simp; done) | (simp; omega)) | with_reducible apply Blk.alloc | with_reducible apply Blk.drew | with_reducible apply Blk.drewN | with_reducible apply Blk.keep0 (hm := by with_reducible assumption) | with_reducible apply Blk.keep (hm := by with_reducible assumption) (hg := by first | omega | exact not_two (by omega) (by omega)) | with_reducible apply Blk.far (hp := by first | omega | (simp; done) | (simp; omega)) | with_reducible apply Blk.set1 | rfl)), (by repeat (first | with_reducible exact Mod.refl _ _ | with_reducible assumption | with_reducible refine Mod.alloc ?_ _ | with_reducible refine Mod.drew ?_ | with_reducible refine Mod.drewN ?_ _ | with_reducible refine Mod.setCell ?_ (by first | exact .inl rfl | (left; (try unfold from_); show _ ≤ _; first | omega | (simp; done) | (simp; omega)) | (right; first | omega | (simp; done) | (simp; omega))) _ | with_reducible refine Mod.call0 ?_ (by with_reducible assumption) | with_reducible refine Mod.call ?_ (by with_reducible assumption) (by first | (rintro _ rfl; first | exact .inl rfl | (right; (first | omega | (simp; done) | (simp; omega)))) | (rintro _ (rfl | rfl) <;> (right; (first | omega | (simp; done) | (simp; omega)))))))⟩
          case rest =>
            obtain ⟨h9, hmc⟩ := hcut
            clear d0 d1 d2 d3 d4
            (try clear q1 q2 q3 q4 y0)
            have c_h9 := h9.cell; have f_h9 := h9.frozen; have l_h9 := h9.lt
            have hbc : b < wc.heap.size := by have := hmc.size; omega
            obtain ⟨c0, c1, c2, c3, c4⟩ := hcell _ _ hX'.out
            have d0 := (hmc.cell (o + (k * 5 + 0)) hbl (fun x => x)).trans c0
            have d1 := (hmc.cell (o + (k * 5 + 1)) hbl (fun x => x)).trans c1
            have d2 := (hmc.cell (o + (k * 5 + 2)) hbl (fun x => x)).trans c2
            have d3 := (hmc.cell (o + (k * 5 + 3)) hbl (fun x => x)).trans c3
            have d4 := (hmc.cell (o + (k * 5 + 4)) hbl (fun x => x)).trans c4
            clear c0 c1 c2 c3 c4
            simp only [Nat.add_zero, ← Nat.add_assoc] at d0 d1 d2 d3 d4
            go_upto_region 17 with fail
            go_region
            all_goals go_upto_region 19 with fail
            go_cut [10, 11] (fun s10 s11 wx => ∃ p10 : Nat, s10 = .pointer (some ⟨p10, 0, none⟩) ∧ Blk wx p10 23 #[.int .i64 e0, .int .i64 (run + 1), .int .i64 yl, .int .i64 e3, .int .i64 L3] ∧ Blk wx w2.heap.size 23 #[.int .i64 e0, .int .i64 (run + 1), .int .i64 yl, .int .i64 P2, .int .i64 L2] ∧ p10 ≠ w2.heap.size ∧ Mod nowhere w wx)
            case first =>
              go_region_held3 (fun w' => w'.cell? ⟨w2.heap.size, 0, none⟩ = some (.int .i64 e0) ∧ w'.cell? ⟨w2.heap.size, 1, none⟩ = some (.int .i64 (run + 1)) ∧ w'.cell? ⟨w2.heap.size, 2, none⟩ = some (.int .i64 yl) ∧ w'.cell? ⟨w2.heap.size, 3, none⟩ = some (.int .i64 P2) ∧ w'.cell? ⟨w2.heap.size, 4, none⟩ = some (.int .i64 L2) ∧ w'.cell? ⟨b, o + k * 5, none⟩ = some (.int .i64 e0) ∧ w'.cell? ⟨b, o + k * 5 + 1, none⟩ = some (.int .i64 e1) ∧ w'.cell? ⟨b, o + k * 5 + 2, none⟩ = some (.int .i64 e2) ∧ w'.cell? ⟨b, o + k * 5 + 3, none⟩ = some (.int .i64 e3) ∧ w'.cell? ⟨b, o + k * 5 + 4, none⟩ = some (.bool e4) ∧ Mod nowhere wc w') ((repeat' apply And.intro) <;> first | (simp [*]; done) | (go_simp; done) | exact (by repeat (first | with_reducible exact Mod.refl _ _ | with_reducible assumption | with_reducible refine Mod.alloc ?_ _ | with_reducible refine Mod.drew ?_ | with_reducible refine Mod.drewN ?_ _ | with_reducible refine Mod.setCell ?_ (by first | exact .inl rfl | (left; (try unfold from_); show _ ≤ _; first | omega | (simp; done) | (simp; omega)) | (right; first | omega | (simp; done) | (simp; omega))) _ | with_reducible refine Mod.call0 ?_ (by with_reducible assumption) | with_reducible refine Mod.call ?_ (by with_reducible assumption) (by first | (rintro _ rfl; first | exact .inl rfl | (right; (first | omega | (simp; done) | (simp; omega)))) | (rintro _ (rfl | rfl) <;> (right; (first | omega | (simp; done) | (simp; omega)))))))) (first | (go_at_call 18; (with_reducible refine (look_calls _ _ _ _ _ _ _ _ i2).mono ?_); rintro e w6 ⟨rfl, hbw6⟩; have hzw6 := hbw6.size; (try simp at hzw6); (try (have ltw60 : w2.heap.size < w6.heap.size := (by omega); have lcw60 := fun o => hbw6.cell (b := w2.heap.size) o (by first | omega | (simp; done) | (simp; omega)) (id); have lfw60 := fun o => hbw6.frozen (b := w2.heap.size) o (by first | omega | (simp; done) | (simp; omega)) (id))); (try (have ltw61 : b < w6.heap.size := (by omega); have lcw61 := fun o => hbw6.cell (b := b) o (by first | omega | (simp; done) | (simp; omega)) (id); have lfw61 := fun o => hbw6.frozen (b := b) o (by first | omega | (simp; done) | (simp; omega)) (id))); (try (have ltw62 : wc.heap.size < w6.heap.size := (by omega); have lcw62 := fun o => hbw6.cell (b := wc.heap.size) o (by first | omega | (simp; done) | (simp; omega)) (id); have lfw62 := fun o => hbw6.frozen (b := wc.heap.size) o (by first | omega | (simp; done) | (simp; omega)) (id))); rw [HN.out]))
              all_goals
                go_wp2_with fail
                go_meet
              all_goals exact ⟨_, rfl, (by repeat (first | with_reducible assumption | with_reducible apply Blk.new | with_reducible exact Blk.newAt (by first | rfl | (simp; done) | (simp; omega)) | with_reducible apply Blk.alloc | with_reducible apply Blk.drew | with_reducible apply Blk.drewN | with_reducible apply Blk.keep0 (hm := by with_reducible assumption) | with_reducible apply Blk.keep (hm := by with_reducible assumption) (hg := by first | omega | exact not_two (by omega) (by omega)) | with_reducible apply Blk.far (hp := by first | omega | (simp; done) | (simp; omega)) | with_reducible apply Blk.set1 | rfl)), (by repeat (first | with_reducible assumption | with_reducible apply Blk.new | with_reducible exact Blk.newAt (by first | rfl | (simp; done) | (simp; omega)) | with_reducible apply Blk.alloc | with_reducible apply Blk.drew | with_reducible apply Blk.drewN | with_reducible apply Blk.keep0 (hm := by with_reducible assumption) | with_reducible apply Blk.keep (hm := by with_reducible assumption) (hg := by first | omega | exact not_two (by omega) (by omega)) | with_reducible apply Blk.far (hp := by first | omega | (simp; done) | (simp; omega)) | with_reducible apply Blk.set1 | rfl)), by first | omega | (simp; omega), (by repeat (first | with_reducible exact Mod.refl _ _ | with_reducible assumption | with_reducible refine Mod.alloc ?_ _ | with_reducible refine Mod.drew ?_ | with_reducible refine Mod.drewN ?_ _ | with_reducible refine Mod.setCell ?_ (by first | exact .inl rfl | (left; (try unfold from_); show _ ≤ _; first | omega | (simp; done) | (simp; omega)) | (right; first | omega | (simp; done) | (simp; omega))) _ | with_reducible refine Mod.call0 ?_ (by with_reducible assumption) | with_reducible refine Mod.call ?_ (by with_reducible assumption) (by first | (rintro _ rfl; first | exact .inl rfl | (right; (first | omega | (simp; done) | (simp; omega)))) | (rintro _ (rfl | rfl) <;> (right; (first | omega | (simp; done) | (simp; omega)))))))⟩
            case rest =>
              obtain ⟨p10, rfl, h10, h9', n10, hmd⟩ := hcut
              clear d0 d1 d2 d3 d4
              have c_h10 := h10.cell; have f_h10 := h10.frozen; have l_h10 := h10.lt; have c_h9' := h9'.cell; have f_h9' := h9'.frozen; have l_h9' := h9'.lt
              have hbd : b < wc.heap.size := by have := hmd.size; omega
              obtain ⟨c0, c1, c2, c3, c4⟩ := hcell _ _ hX'.out
              have d0 := (hmd.cell (o + (k * 5 + 0)) hbl (fun x => x)).trans c0
              have d1 := (hmd.cell (o + (k * 5 + 1)) hbl (fun x => x)).trans c1
              have d2 := (hmd.cell (o + (k * 5 + 2)) hbl (fun x => x)).trans c2
              have d3 := (hmd.cell (o + (k * 5 + 3)) hbl (fun x => x)).trans c3
              have d4 := (hmd.cell (o + (k * 5 + 4)) hbl (fun x => x)).trans c4
              clear c0 c1 c2 c3 c4
              simp only [Nat.add_zero, ← Nat.add_assoc] at d0 d1 d2 d3 d4
              go_upto_region 20 with fail
              go_region
              all_goals
               go_wp2
               go_roundw
               case rel => exact ⟨k + 1, run + 1, e0, e3, L3, rfl, congrArg (Value.int .i64) (by omega), by omega, .inr ⟨_, _, rfl, hX'.out, rfl, by omega, by omega, by omega⟩, i3, (by repeat (first | with_reducible assumption | with_reducible apply Blk.new | with_reducible exact Blk.newAt (by first | rfl | (simp; done) | (simp; omega)) | with_reducible apply Blk.alloc | with_reducible apply Blk.drew | with_reducible apply Blk.drewN | with_reducible apply Blk.keep0 (hm := by with_reducible assumption) | with_reducible apply Blk.keep (hm := by with_reducible assumption) (hg := by first | omega | exact not_two (by omega) (by omega)) | with_reducible apply Blk.far (hp := by first | omega | (simp; done) | (simp; omega)) | with_reducible apply Blk.set1 | rfl)), (by repeat (first | with_reducible exact Mod.refl _ _ | with_reducible assumption | with_reducible refine Mod.alloc ?_ _ | with_reducible refine Mod.drew ?_ | with_reducible refine Mod.drewN ?_ _ | with_reducible refine Mod.setCell ?_ (by first | exact .inl rfl | (left; (try unfold from_); show _ ≤ _; first | omega | (simp; done) | (simp; omega)) | (right; first | omega | (simp; done) | (simp; omega))) _ | with_reducible refine Mod.call0 ?_ (by with_reducible assumption) | with_reducible refine Mod.call ?_ (by with_reducible assumption) (by first | (rintro _ rfl; first | exact .inl rfl | (right; (first | omega | (simp; done) | (simp; omega)))) | (rintro _ (rfl | rfl) <;> (right; (first | omega | (simp; done) | (simp; omega)))))))⟩
               case measure => simp [intOf]; omega
        · have c_hb1 := hb1.cell; have f_hb1 := hb1.frozen; have l_hb1 := hb1.lt
          go_upto_region 14 with fail
          have wj := HW.out
          clear q1 q2 q3 q4
          have bk4 : ((k : Int) == 0) = false := beq_eq_false_iff_ne.2 (by omega)
          refine wp_region_still_lit (by kernel_rfl) (by kernel_rfl) ?_
          change wpStill _ _ wr.drew _ _ _
          iterate 16 (with_reducible refine wpStill_step (fun K hK => ?_); go_simp; with_reducible refine hK _ ?_; clear hK K)
          with_reducible refine wpStill_nil ?_
          rw [show ({ wr with drawn := wr.drawn + 1 } : World) = wr.drew from rfl]
          clear wj
          have hM : ∃ P2 L2 L3 : Int, metF ⟨f', run, yl, p, L⟩ ⟨e0, e1, e2, e3, e4⟩ = ⟨e0, 1, yl, P2, L2⟩ ∧ I64 L2 ∧ lookF ⟨e0, 1, yl, P2, L2⟩ e3 = ⟨e0, 1, yl, e3, L3⟩ ∧ I64 L3 := by
            have look : ∀ P2 L2, I64 L2 → ∃ L3, lookF ⟨e0, 1, yl, P2, L2⟩ e3 = ⟨e0, 1, yl, e3, L3⟩ ∧ I64 L3 := by
              intro P2 L2 i2
              unfold lookF
              by_cases hp : P2 = e3
              · subst hp; exact ⟨moreF L2, if_pos rfl, moreF_i64 i2⟩
              · exact ⟨0, if_neg hp, by unfold I64; omega⟩
            refine ⟨e3, 0, ?_⟩
            obtain ⟨L3, hN, i3⟩ := look e3 0 (by unfold I64; omega)
            exact ⟨L3, if_neg (by simp only; omega), by unfold I64; omega, hN, i3⟩
          obtain ⟨P2, L2, L3, hM, i2, hN, i3⟩ := hM
          have HM := hide hM
          have HN := hide hN
          clear hM hN
          go_upto_region 16 with fail
          go_cut [55] (fun _ wx => Blk wx w2.heap.size 23 #[.int .i64 e0, .int .i64 (1), .int .i64 yl, .int .i64 P2, .int .i64 L2] ∧ Mod nowhere w wx)
          case first =>
            go_region_law (first | (go_simp; (go_at_call 16; (with_reducible refine (met_calls _ _ _ _ _ _ _ _ _ _ _ (by unfold I64; omega)).mono ?_); rintro e w5 ⟨rfl, hbw5⟩; have hzw5 := hbw5.size; (try simp at hzw5); (try (have ltw50 : w2.heap.size < w5.heap.size := (by omega); have lcw50 := fun o => hbw5.cell (b := w2.heap.size) o (by first | omega | (simp; done) | (simp; omega)) (id); have lfw50 := fun o => hbw5.frozen (b := w2.heap.size) o (by first | omega | (simp; done) | (simp; omega)) (id))); (try (have ltw51 : b < w5.heap.size := (by omega); have lcw51 := fun o => hbw5.cell (b := b) o (by first | omega | (simp; done) | (simp; omega)) (id); have lfw51 := fun o => hbw5.frozen (b := b) o (by first | omega | (simp; done) | (simp; omega)) (id))); rw [HM.out])))
            all_goals
              go_wp2_with fail
              go_meet
            all_goals exact ⟨(by repeat (first | with_reducible assumption | with_reducible apply Blk.new | with_reducible exact Blk.newAt (by first | rfl | (simp; done) | (simp; omega)) | with_reducible apply Blk.alloc | with_reducible apply Blk.drew | with_reducible apply Blk.drewN | with_reducible apply Blk.keep0 (hm := by with_reducible assumption) | with_reducible apply Blk.keep (hm := by with_reducible assumption) (hg := by first | omega | exact not_two (by omega) (by omega)) | with_reducible apply Blk.far (hp := by first | omega | (simp; done) | (simp; omega)) | with_reducible apply Blk.set1 | rfl)), (by repeat (first | with_reducible exact Mod.refl _ _ | with_reducible assumption | with_reducible refine Mod.alloc ?_ _ | with_reducible refine Mod.drew ?_ | with_reducible refine Mod.drewN ?_ _ | with_reducible refine Mod.setCell ?_ (by first | exact .inl rfl | (left; (try unfold from_); show _ ≤ _; first | omega | (simp; done) | (simp; omega)) | (right; first | omega | (simp; done) | (simp; omega))) _ | with_reducible refine Mod.call0 ?_ (by with_reducible assumption) | with_reducible refine Mod.call ?_ (by with_reducible assumption) (by first | (rintro _ rfl; first | exact .inl rfl | (right; (first | omega | (simp; done) | (simp; omega)))) | (rintro _ (rfl | rfl) <;> (right; (first | omega | (simp; done) | (simp; omega)))))))⟩
          case rest =>
            obtain ⟨h9, hmc⟩ := hcut
            clear d0 d1 d2 d3 d4
            (try clear q1 q2 q3 q4 y0)
            have c_h9 := h9.cell; have f_h9 := h9.frozen; have l_h9 := h9.lt
            have hbc : b < wc.heap.size := by have := hmc.size; omega
            obtain ⟨c0, c1, c2, c3, c4⟩ := hcell _ _ hX'.out
            have d0 := (hmc.cell (o + (k * 5 + 0)) hbl (fun x => x)).trans c0
            have d1 := (hmc.cell (o + (k * 5 + 1)) hbl (fun x => x)).trans c1
            have d2 := (hmc.cell (o + (k * 5 + 2)) hbl (fun x => x)).trans c2
            have d3 := (hmc.cell (o + (k * 5 + 3)) hbl (fun x => x)).trans c3
            have d4 := (hmc.cell (o + (k * 5 + 4)) hbl (fun x => x)).trans c4
            clear c0 c1 c2 c3 c4
            simp only [Nat.add_zero, ← Nat.add_assoc] at d0 d1 d2 d3 d4
            go_upto_region 17 with fail
            go_region
            all_goals go_upto_region 19 with fail
            go_cut [10, 11] (fun s10 s11 wx => ∃ p10 : Nat, s10 = .pointer (some ⟨p10, 0, none⟩) ∧ Blk wx p10 23 #[.int .i64 e0, .int .i64 (1), .int .i64 yl, .int .i64 e3, .int .i64 L3] ∧ Blk wx w2.heap.size 23 #[.int .i64 e0, .int .i64 (1), .int .i64 yl, .int .i64 P2, .int .i64 L2] ∧ p10 ≠ w2.heap.size ∧ Mod nowhere w wx)
            case first =>
              go_region_held3 (fun w' => w'.cell? ⟨w2.heap.size, 0, none⟩ = some (.int .i64 e0) ∧ w'.cell? ⟨w2.heap.size, 1, none⟩ = some (.int .i64 (1)) ∧ w'.cell? ⟨w2.heap.size, 2, none⟩ = some (.int .i64 yl) ∧ w'.cell? ⟨w2.heap.size, 3, none⟩ = some (.int .i64 P2) ∧ w'.cell? ⟨w2.heap.size, 4, none⟩ = some (.int .i64 L2) ∧ w'.cell? ⟨b, o + k * 5, none⟩ = some (.int .i64 e0) ∧ w'.cell? ⟨b, o + k * 5 + 1, none⟩ = some (.int .i64 e1) ∧ w'.cell? ⟨b, o + k * 5 + 2, none⟩ = some (.int .i64 e2) ∧ w'.cell? ⟨b, o + k * 5 + 3, none⟩ = some (.int .i64 e3) ∧ w'.cell? ⟨b, o + k * 5 + 4, none⟩ = some (.bool e4) ∧ Mod nowhere wc w') ((repeat' apply And.intro) <;> first | (simp [*]; done) | (go_simp; done) | exact (by repeat (first | with_reducible exact Mod.refl _ _ | with_reducible assumption | with_reducible refine Mod.alloc ?_ _ | with_reducible refine Mod.drew ?_ | with_reducible refine Mod.drewN ?_ _ | with_reducible refine Mod.setCell ?_ (by first | exact .inl rfl | (left; (try unfold from_); show _ ≤ _; first | omega | (simp; done) | (simp; omega)) | (right; first | omega | (simp; done) | (simp; omega))) _ | with_reducible refine Mod.call0 ?_ (by with_reducible assumption) | with_reducible refine Mod.call ?_ (by with_reducible assumption) (by first | (rintro _ rfl; first | exact .inl rfl | (right; (first | omega | (simp; done) | (simp; omega)))) | (rintro _ (rfl | rfl) <;> (right; (first | omega | (simp; done) | (simp; omega)))))))) (first | (go_at_call 18; (with_reducible refine (look_calls _ _ _ _ _ _ _ _ i2).mono ?_); rintro e w6 ⟨rfl, hbw6⟩; have hzw6 := hbw6.size; (try simp at hzw6); (try (have ltw60 : w2.heap.size < w6.heap.size := (by omega); have lcw60 := fun o => hbw6.cell (b := w2.heap.size) o (by first | omega | (simp; done) | (simp; omega)) (id); have lfw60 := fun o => hbw6.frozen (b := w2.heap.size) o (by first | omega | (simp; done) | (simp; omega)) (id))); (try (have ltw61 : b < w6.heap.size := (by omega); have lcw61 := fun o => hbw6.cell (b := b) o (by first | omega | (simp; done) | (simp; omega)) (id); have lfw61 := fun o => hbw6.frozen (b := b) o (by first | omega | (simp; done) | (simp; omega)) (id))); (try (have ltw62 : wc.heap.size < w6.heap.size := (by omega); have lcw62 := fun o => hbw6.cell (b := wc.heap.size) o (by first | omega | (simp; done) | (simp; omega)) (id); have lfw62 := fun o => hbw6.frozen (b := wc.heap.size) o (by first | omega | (simp; done) | (simp; omega)) (id))); rw [HN.out]))
              all_goals
                go_wp2_with fail
                go_meet
              all_goals exact ⟨_, rfl, (by repeat (first | with_reducible assumption | with_reducible apply Blk.new | with_reducible exact Blk.newAt (by first | rfl | (simp; done) | (simp; omega)) | with_reducible apply Blk.alloc | with_reducible apply Blk.drew | with_reducible apply Blk.drewN | with_reducible apply Blk.keep0 (hm := by with_reducible assumption) | with_reducible apply Blk.keep (hm := by with_reducible assumption) (hg := by first | omega | exact not_two (by omega) (by omega)) | with_reducible apply Blk.far (hp := by first | omega | (simp; done) | (simp; omega)) | with_reducible apply Blk.set1 | rfl)), (by repeat (first | with_reducible assumption | with_reducible apply Blk.new | with_reducible exact Blk.newAt (by first | rfl | (simp; done) | (simp; omega)) | with_reducible apply Blk.alloc | with_reducible apply Blk.drew | with_reducible apply Blk.drewN | with_reducible apply Blk.keep0 (hm := by with_reducible assumption) | with_reducible apply Blk.keep (hm := by with_reducible assumption) (hg := by first | omega | exact not_two (by omega) (by omega)) | with_reducible apply Blk.far (hp := by first | omega | (simp; done) | (simp; omega)) | with_reducible apply Blk.set1 | rfl)), by first | omega | (simp; omega), (by repeat (first | with_reducible exact Mod.refl _ _ | with_reducible assumption | with_reducible refine Mod.alloc ?_ _ | with_reducible refine Mod.drew ?_ | with_reducible refine Mod.drewN ?_ _ | with_reducible refine Mod.setCell ?_ (by first | exact .inl rfl | (left; (try unfold from_); show _ ≤ _; first | omega | (simp; done) | (simp; omega)) | (right; first | omega | (simp; done) | (simp; omega))) _ | with_reducible refine Mod.call0 ?_ (by with_reducible assumption) | with_reducible refine Mod.call ?_ (by with_reducible assumption) (by first | (rintro _ rfl; first | exact .inl rfl | (right; (first | omega | (simp; done) | (simp; omega)))) | (rintro _ (rfl | rfl) <;> (right; (first | omega | (simp; done) | (simp; omega)))))))⟩
            case rest =>
              obtain ⟨p10, rfl, h10, h9', n10, hmd⟩ := hcut
              clear d0 d1 d2 d3 d4
              have c_h10 := h10.cell; have f_h10 := h10.frozen; have l_h10 := h10.lt; have c_h9' := h9'.cell; have f_h9' := h9'.frozen; have l_h9' := h9'.lt
              have hbd : b < wc.heap.size := by have := hmd.size; omega
              obtain ⟨c0, c1, c2, c3, c4⟩ := hcell _ _ hX'.out
              have d0 := (hmd.cell (o + (k * 5 + 0)) hbl (fun x => x)).trans c0
              have d1 := (hmd.cell (o + (k * 5 + 1)) hbl (fun x => x)).trans c1
              have d2 := (hmd.cell (o + (k * 5 + 2)) hbl (fun x => x)).trans c2
              have d3 := (hmd.cell (o + (k * 5 + 3)) hbl (fun x => x)).trans c3
              have d4 := (hmd.cell (o + (k * 5 + 4)) hbl (fun x => x)).trans c4
              clear c0 c1 c2 c3 c4
              simp only [Nat.add_zero, ← Nat.add_assoc] at d0 d1 d2 d3 d4
              go_upto_region 20 with fail
              go_region
              all_goals
               go_wp2
               go_roundw
               case rel => exact ⟨k + 1, 1, e0, e3, L3, rfl, congrArg (Value.int .i64) (by omega), by omega, .inr ⟨_, _, rfl, hX'.out, rfl, by omega, by omega, by omega⟩, i3, (by repeat (first | with_reducible assumption | with_reducible apply Blk.new | with_reducible exact Blk.newAt (by first | rfl | (simp; done) | (simp; omega)) | with_reducible apply Blk.alloc | with_reducible apply Blk.drew | with_reducible apply Blk.drewN | with_reducible apply Blk.keep0 (hm := by with_reducible assumption) | with_reducible apply Blk.keep (hm := by with_reducible assumption) (hg := by first | omega | exact not_two (by omega) (by omega)) | with_reducible apply Blk.far (hp := by first | omega | (simp; done) | (simp; omega)) | with_reducible apply Blk.set1 | rfl)), (by repeat (first | with_reducible exact Mod.refl _ _ | with_reducible assumption | with_reducible refine Mod.alloc ?_ _ | with_reducible refine Mod.drew ?_ | with_reducible refine Mod.drewN ?_ _ | with_reducible refine Mod.setCell ?_ (by first | exact .inl rfl | (left; (try unfold from_); show _ ≤ _; first | omega | (simp; done) | (simp; omega)) | (right; first | omega | (simp; done) | (simp; omega))) _ | with_reducible refine Mod.call0 ?_ (by with_reducible assumption) | with_reducible refine Mod.call ?_ (by with_reducible assumption) (by first | (rintro _ rfl; first | exact .inl rfl | (right; (first | omega | (simp; done) | (simp; omega)))) | (rintro _ (rfl | rfl) <;> (right; (first | omega | (simp; done) | (simp; omega)))))))⟩
               case measure => simp [intOf]; omega
    · go_wp2
      go_ret
      exact ⟨rfl, (by repeat (first | with_reducible exact Mod.refl _ _ | with_reducible assumption | with_reducible refine Mod.alloc ?_ _ | with_reducible refine Mod.drew ?_ | with_reducible refine Mod.drewN ?_ _ | with_reducible refine Mod.setCell ?_ (by first | exact .inl rfl | (left; (try unfold from_); show _ ≤ _; first | omega | (simp; done) | (simp; omega)) | (right; first | omega | (simp; done) | (simp; omega))) _ | with_reducible refine Mod.call0 ?_ (by with_reducible assumption) | with_reducible refine Mod.call ?_ (by with_reducible assumption) (by first | (rintro _ rfl; first | exact .inl rfl | (right; (first | omega | (simp; done) | (simp; omega)))) | (rintro _ (rfl | rfl) <;> (right; (first | omega | (simp; done) | (simp; omega)))))))⟩
end Go.Proofs.Ytdbheagfnodfmaa
