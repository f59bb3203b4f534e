/- Karma against one foe, again and again: the law KarmaEnds, walked. -/
import Derived.Test.YtdbheagfnodfmaaLawsKarma2
import Derived.LoopTactic
namespace Go.Proofs.Ytdbheagfnodfmaa
open Go.RowKit

theorem marks_calls (w : World) : Calls Try.prog 31 #[.agg #[]] w fun en w' => en = .returned (.bool false) ∧ Mod nowhere w w' := by
  go_enter Try.func31, Try.ntmps31
  go_wp2
  go_ret
  exact ⟨rfl, (by repeat (first | with_reducible exact Mod.refl _ _ | with_reducible assumption | with_reducible refine Mod.alloc ?_ _ | with_reducible refine Mod.drew ?_ | with_reducible refine Mod.drewN ?_ _ | with_reducible refine Mod.setCell ?_ (by first | exact .inl rfl | (left; (try unfold from_); show _ ≤ _; first | omega | (simp; done) | (simp; omega)) | (right; first | omega | (simp; done) | (simp; omega))) _ | with_reducible refine Mod.call0 ?_ (by with_reducible assumption) | with_reducible refine Mod.call ?_ (by with_reducible assumption) (by rintro _ rfl; first | exact .inl rfl | (right; (first | omega | (simp; done) | (simp; omega))))))⟩
theorem fld_manager (w : World) : (Instr.field 45 (.agg #[]) 0).run Try.prog w = .ok (.agg #[]) w := by kernel_rfl

set_option maxHeartbeats 4000000 in
theorem law_karmaEnds (a0 a1 a2 a3 : Int) (a4 : Bool) (b0 b1 b2 b3 : Int) (b4 : Bool) (A : Option Addr) (n c : Nat) (l : List Int) (wt : Int) (w : World) (h0 : 0 ≤ wt) (h1 : wt ≤ 255) (hl : l.length = n) (hr : Reads w w.heap.size 1 A n (l.map (Value.int .i64))) :
    Calls Try.prog 11 #[.agg #[.int .i64 a0, .int .i64 a1, .int .i64 a2, .int .i64 a3, .bool a4],
      .agg #[.int .i64 b0, .int .i64 b1, .int .i64 b2, .int .i64 b3, .bool b4], .slice A n c, .int .u8 wt] w
     fun en w' => en = .returned (.bool true) ∧ Mod nowhere w w' := by
  have early : (20 < n ∨ b0 < 0 ∨ a2 < 0 ∨ b2 < 0 ∨ 1099511627776 < a2) ∨ (n ≤ 20 ∧ 0 ≤ b0 ∧ 0 ≤ a2 ∧ 0 ≤ b2 ∧ a2 ≤ 1099511627776) := by omega
  rcases early with h | ⟨g0, g1, g2, g3, g4⟩
  · go_enter Try.func11, Try.ntmps11
    go_wp2_with fail
    (with_reducible refine (alive7_calls _).mono ?_)
    rintro e w1 ⟨rfl, hbw1⟩
    have hzw1 := hbw1.size
    (try simp at hzw1)
    (try (have ltw10 : w.heap.size < w1.heap.size := (by omega); have lcw10 := fun o => hbw1.cell (b := w.heap.size) o (by first | omega | (simp; done) | (simp; omega)) (id); have lfw10 := fun o => hbw1.frozen (b := w.heap.size) o (by first | omega | (simp; done) | (simp; omega)) (id)))
    (try (have ltw11 : w.heap.size + 1 < w1.heap.size := (by omega); have lcw11 := fun o => hbw1.cell (b := w.heap.size + 1) o (by first | omega | (simp; done) | (simp; omega)) (id); have lfw11 := fun o => hbw1.frozen (b := w.heap.size + 1) o (by first | omega | (simp; done) | (simp; omega)) (id)))
    skip
    go_wp2
    all_goals first | (exfalso; omega) | skip
    all_goals go_ret
    all_goals exact ⟨rfl, (by repeat (first | with_reducible exact Mod.refl _ _ | with_reducible assumption | with_reducible refine Mod.alloc ?_ _ | with_reducible refine Mod.drew ?_ | with_reducible refine Mod.drewN ?_ _ | with_reducible refine Mod.setCell ?_ (by first | exact .inl rfl | (left; (try unfold from_); show _ ≤ _; first | omega | (simp; done) | (simp; omega)) | (right; first | omega | (simp; done) | (simp; omega))) _ | with_reducible refine Mod.call0 ?_ (by with_reducible assumption) | with_reducible refine Mod.call ?_ (by with_reducible assumption) (by rintro _ rfl; first | exact .inl rfl | (right; (first | omega | (simp; done) | (simp; omega))))))⟩
  have hs : Small a2 := small_of (by omega) (by omega)
  have hwt : 0 ≤ wt % 64 ∧ wt % 64 < 64 := by omega
  have HR := hide hr
  have HL := hide hl
  clear hr hl
  go_enter Try.func11, Try.ntmps11
  go_wp2_with fail
  (with_reducible refine (alive7_calls _).mono ?_)
  rintro e w1 ⟨rfl, hbw1⟩
  have hzw1 := hbw1.size
  (try simp at hzw1)
  (try (have ltw10 : w.heap.size < w1.heap.size := (by omega); have lcw10 := fun o => hbw1.cell (b := w.heap.size) o (by first | omega | (simp; done) | (simp; omega)) (id); have lfw10 := fun o => hbw1.frozen (b := w.heap.size) o (by first | omega | (simp; done) | (simp; omega)) (id)))
  (try (have ltw11 : w.heap.size + 1 < w1.heap.size := (by omega); have lcw11 := fun o => hbw1.cell (b := w.heap.size + 1) o (by first | omega | (simp; done) | (simp; omega)) (id); have lfw11 := fun o => hbw1.frozen (b := w.heap.size + 1) o (by first | omega | (simp; done) | (simp; omega)) (id)))
  skip
  go_wp2_with fail
  (with_reducible refine (fresh_calls _).mono ?_)
  rintro e w2 ⟨rfl, hbw2⟩
  have hzw2 := hbw2.size
  (try simp at hzw2)
  (try (have ltw20 : w.heap.size < w2.heap.size := (by omega); have lcw20 := fun o => hbw2.cell (b := w.heap.size) o (by first | omega | (simp; done) | (simp; omega)) (id); have lfw20 := fun o => hbw2.frozen (b := w.heap.size) o (by first | omega | (simp; done) | (simp; omega)) (id)))
  (try (have ltw21 : w.heap.size + 1 < w2.heap.size := (by omega); have lcw21 := fun o => hbw2.cell (b := w.heap.size + 1) o (by first | omega | (simp; done) | (simp; omega)) (id); have lfw21 := fun o => hbw2.frozen (b := w.heap.size + 1) o (by first | omega | (simp; done) | (simp; omega)) (id)))
  skip
  go_wp2_with fail
  go_loopw [11, 12, 13, 14] (fun s11 _ _ _ wx => ∃ (k : Nat) (f p : Int), s11 = .int .i64 k ∧ k ≤ n ∧ ((k = 0 ∧ f = -1 ∧ p = 0) ∨ (0 < k ∧ f = b0 ∧ p = b3)) ∧ Blk wx w2.heap.size 23 #[.int .i64 f, .int .i64 k, .int .i64 0, .int .i64 p, .int .i64 0] ∧
      Blk wx w.heap.size 25 #[.int .i64 a0, .int .i64 a1, .int .i64 a2, .int .i64 a3, .bool a4] ∧ Blk wx (w.heap.size + 1) 25 #[.int .i64 b0, .int .i64 b1, .int .i64 b2, .int .i64 b3, .bool b4] ∧ Mod nowhere w wx)
    (fun s11 _ _ _ _ => (300 - (intOf s11)).toNat)
  case atStart =>
    refine ⟨0, -1, 0, rfl, Nat.zero_le _, .inl ⟨rfl, rfl, rfl⟩, ?_, (by repeat (first | with_reducible assumption | with_reducible apply Blk.new | with_reducible exact Blk.newAt (by first | rfl | (simp; done) | (simp; omega)) | with_reducible apply Blk.alloc | with_reducible apply Blk.drew | with_reducible apply Blk.drewN | with_reducible apply Blk.keep0 (hm := by with_reducible assumption) | with_reducible apply Blk.keep (hm := by with_reducible assumption) (hg := by omega) | with_reducible apply Blk.far (hp := by first | omega | (simp; done) | (simp; omega)) | with_reducible apply Blk.set1 | rfl)), (by repeat (first | with_reducible assumption | with_reducible apply Blk.new | with_reducible exact Blk.newAt (by first | rfl | (simp; done) | (simp; omega)) | with_reducible apply Blk.alloc | with_reducible apply Blk.drew | with_reducible apply Blk.drewN | with_reducible apply Blk.keep0 (hm := by with_reducible assumption) | with_reducible apply Blk.keep (hm := by with_reducible assumption) (hg := by omega) | with_reducible apply Blk.far (hp := by first | omega | (simp; done) | (simp; omega)) | with_reducible apply Blk.set1 | rfl)), (by repeat (first | with_reducible exact Mod.refl _ _ | with_reducible assumption | with_reducible refine Mod.alloc ?_ _ | with_reducible refine Mod.drew ?_ | with_reducible refine Mod.drewN ?_ _ | with_reducible refine Mod.setCell ?_ (by first | exact .inl rfl | (left; (try unfold from_); show _ ≤ _; first | omega | (simp; done) | (simp; omega)) | (right; first | omega | (simp; done) | (simp; omega))) _ | with_reducible refine Mod.call0 ?_ (by with_reducible assumption) | with_reducible refine Mod.call ?_ (by with_reducible assumption) (by rintro _ rfl; first | exact .inl rfl | (right; (first | omega | (simp; done) | (simp; omega))))))⟩
    show Blk _ _ _ #[.int .i64 (-1), .int .i64 0, .int .i64 0, .int .i64 0, .int .i64 0]
    exact (by repeat (first | with_reducible assumption | with_reducible apply Blk.new | with_reducible exact Blk.newAt (by first | rfl | (simp; done) | (simp; omega)) | with_reducible apply Blk.alloc | with_reducible apply Blk.drew | with_reducible apply Blk.drewN | with_reducible apply Blk.keep0 (hm := by with_reducible assumption) | with_reducible apply Blk.keep (hm := by with_reducible assumption) (hg := by omega) | with_reducible apply Blk.far (hp := by first | omega | (simp; done) | (simp; omega)) | with_reducible apply Blk.set1 | rfl))
  case round =>
    obtain ⟨k, f, p, rfl, hk, hst, hb1, hb2, hb3, hmr⟩ := hrel
    by_cases hlt : k < n
    · obtain ⟨b, o, rfl, hbl, hcell⟩ := HR.out.form (by omega) (by omega)
      have hd : (l.map (Value.int .i64))[k]? = some (.int .i64 (l[k]'(by have := HL.out; omega))) := by
        rw [List.getElem?_map, List.getElem?_eq_getElem (by have := HL.out; omega)]; rfl
      have hcd := (hmr.cell (o + k) hbl (fun x => x)).trans (hcell k _ hd)
      generalize l[k]'(by have := HL.out; omega) = d at hcd
      clear hd hcell
      have hbr : b < wr.heap.size := by have := hmr.size; omega
      have hM := hide (show metF ⟨f, k, 0, p, 0⟩ ⟨b0, b1, b2, b3, b4⟩ = ⟨b0, (k : Int) + 1, 0, b3, 0⟩ by
        rcases hst with ⟨rfl, rfl, rfl⟩ | ⟨hp, rfl, rfl⟩
        · unfold metF; rw [if_neg (by simp only; omega)]; simp
        · unfold metF moreF; rw [if_pos rfl]; simp; omega)
      have ik : I64 k := by unfold I64; omega
      have hsk : Small ((k : Int) + 1) := small_of (by omega) (by omega)
      have hK : ∃ K S : Int, karmaK a2 b2 ((k : Int) + 1) = K ∧ karmaS a2 b2 ((k : Int) + 1) (1 + wt % 64) = S ∧ okF K S (1 + wt % 64) = true ∧
          ((((k : Int) < 8 ∧ a2 + k + 1 < b2) ∧ K = 2 ∧ S = 1) ∨ (¬ ((k : Int) < 8 ∧ a2 + k + 1 < b2) ∧ K = 1 ∧ S = 0)) := by
        by_cases hc : (k : Int) < 8 ∧ a2 + k + 1 < b2
        · obtain ⟨e1, e2⟩ := karma_waits (me := a2) (foe := b2) (t := (k : Int) + 1) (wait := 1 + wt % 64) (by omega)
          rw [forF_one (by omega)] at e2
          exact ⟨2, 1, e1, e2, by simp [okF]; omega, .inl ⟨hc, rfl, rfl⟩⟩
        · obtain ⟨e1, e2⟩ := karma_aborts (me := a2) (foe := b2) (t := (k : Int) + 1) (wait := 1 + wt % 64) (by omega)
          exact ⟨1, 0, e1, e2, by simp [okF], .inr ⟨hc, rfl, rfl⟩⟩
      obtain ⟨K, S, hK1, hS1, hO, hcase⟩ := hK
      have HK := hide hK1
      have HS := hide hS1
      have HO := hide hO
      have HC := hide hcase
      clear hK1 hS1 hO hcase hst
      have c_hb1 := hb1.cell; have f_hb1 := hb1.frozen; have l_hb1 := hb1.lt; have c_hb2 := hb2.cell; have f_hb2 := hb2.frozen; have l_hb2 := hb2.lt; have c_hb3 := hb3.cell; have f_hb3 := hb3.frozen; have l_hb3 := hb3.lt
      go_upto_region 10 with fail
      go_cut [12, 13] (fun s12 s13 wx => ∃ p12 p13 : Nat, s12 = .pointer (some ⟨p12, 0, none⟩) ∧ s13 = .pointer (some ⟨p13, 0, none⟩) ∧ Blk wx p12 40 #[.int .i64 K, .int .i64 S] ∧ Blk wx p13 23 #[.int .i64 b0, .int .i64 ((k : Int) + 1), .int .i64 0, .int .i64 b3, .int .i64 0] ∧
        Blk wx w2.heap.size 23 #[.int .i64 f, .int .i64 k, .int .i64 0, .int .i64 p, .int .i64 0] ∧ p12 ≠ w2.heap.size ∧ p13 ≠ w2.heap.size ∧
        Blk wx w.heap.size 25 #[.int .i64 a0, .int .i64 a1, .int .i64 a2, .int .i64 a3, .bool a4] ∧ Blk wx (w.heap.size + 1) 25 #[.int .i64 b0, .int .i64 b1, .int .i64 b2, .int .i64 b3, .bool b4] ∧ Mod nowhere w wx)
      case first =>
        go_region_held3 (fun w' => w'.cell? ⟨w2.heap.size, 0, none⟩ = some (.int .i64 f) ∧ w'.cell? ⟨w2.heap.size, 1, none⟩ = some (.int .i64 k) ∧ w'.cell? ⟨w2.heap.size, 2, none⟩ = some (.int .i64 0) ∧ w'.cell? ⟨w2.heap.size, 3, none⟩ = some (.int .i64 p) ∧ w'.cell? ⟨w2.heap.size, 4, none⟩ = some (.int .i64 0) ∧ w'.cell? ⟨w.heap.size, 0, none⟩ = some (.int .i64 a0) ∧ w'.cell? ⟨w.heap.size, 1, none⟩ = some (.int .i64 a1) ∧ w'.cell? ⟨w.heap.size, 2, none⟩ = some (.int .i64 a2) ∧ w'.cell? ⟨w.heap.size, 3, none⟩ = some (.int .i64 a3) ∧ w'.cell? ⟨w.heap.size, 4, none⟩ = some (.bool a4) ∧ w'.cell? ⟨w.heap.size + 1, 0, none⟩ = some (.int .i64 b0) ∧ w'.cell? ⟨w.heap.size + 1, 1, none⟩ = some (.int .i64 b1) ∧ w'.cell? ⟨w.heap.size + 1, 2, none⟩ = some (.int .i64 b2) ∧ w'.cell? ⟨w.heap.size + 1, 3, none⟩ = some (.int .i64 b3) ∧ w'.cell? ⟨w.heap.size + 1, 4, none⟩ = some (.bool b4) ∧ w'.cell? ⟨b, o + k, none⟩ = some (.int .i64 d) ∧ Mod nowhere wr w') ((repeat' apply And.intro) <;> first | (simp [*]; done) | (go_simp; done) | exact (by repeat (first | with_reducible exact Mod.refl _ _ | with_reducible assumption | with_reducible refine Mod.alloc ?_ _ | with_reducible refine Mod.drew ?_ | with_reducible refine Mod.drewN ?_ _ | with_reducible refine Mod.setCell ?_ (by first | exact .inl rfl | (left; (try unfold from_); show _ ≤ _; first | omega | (simp; done) | (simp; omega)) | (right; first | omega | (simp; done) | (simp; omega))) _ | with_reducible refine Mod.call0 ?_ (by with_reducible assumption) | with_reducible refine Mod.call ?_ (by with_reducible assumption) (by rintro _ rfl; first | exact .inl rfl | (right; (first | omega | (simp; done) | (simp; omega))))))) (first | (go_at_call 22; (with_reducible refine (karma_calls _ _ _ _ _ _ _ _ _ _ _ _ _ _ _ _ _ _ ik hs (by rw [hM.out]; exact hsk)).mono ?_); rintro e w5 ⟨rfl, hbw5⟩; have hzw5 := hbw5.size; (try simp at hzw5); (try (have ltw50 : w.heap.size < w5.heap.size := (by omega); have lcw50 := fun o => hbw5.cell (b := w.heap.size) o (by first | omega | (simp; done) | (simp; omega)) (id); have lfw50 := fun o => hbw5.frozen (b := w.heap.size) o (by first | omega | (simp; done) | (simp; omega)) (id))); (try (have ltw51 : w.heap.size + 1 < w5.heap.size := (by omega); have lcw51 := fun o => hbw5.cell (b := w.heap.size + 1) o (by first | omega | (simp; done) | (simp; omega)) (id); have lfw51 := fun o => hbw5.frozen (b := w.heap.size + 1) o (by first | omega | (simp; done) | (simp; omega)) (id))); (try (have ltw52 : w2.heap.size < w5.heap.size := (by omega); have lcw52 := fun o => hbw5.cell (b := w2.heap.size) o (by first | omega | (simp; done) | (simp; omega)) (id); have lfw52 := fun o => hbw5.frozen (b := w2.heap.size) o (by first | omega | (simp; done) | (simp; omega)) (id))); (try (have ltw53 : wr.heap.size < w5.heap.size := (by omega); have lcw53 := fun o => hbw5.cell (b := wr.heap.size) o (by first | omega | (simp; done) | (simp; omega)) (id); have lfw53 := fun o => hbw5.frozen (b := wr.heap.size) o (by first | omega | (simp; done) | (simp; omega)) (id))); (try (have ltw54 : wr.heap.size + 1 < w5.heap.size := (by omega); have lcw54 := fun o => hbw5.cell (b := wr.heap.size + 1) o (by first | omega | (simp; done) | (simp; omega)) (id); have lfw54 := fun o => hbw5.frozen (b := wr.heap.size + 1) o (by first | omega | (simp; done) | (simp; omega)) (id))); (try (have ltw55 : b < w5.heap.size := (by omega); have lcw55 := fun o => hbw5.cell (b := b) o (by first | omega | (simp; done) | (simp; omega)) (id); have lfw55 := fun o => hbw5.frozen (b := b) o (by first | omega | (simp; done) | (simp; omega)) (id))); simp only [hM.out, HK.out, HS.out]))
        all_goals
          go_wp2_with fail
          go_meet
        all_goals exact ⟨_, _, rfl, rfl, (by repeat (first | with_reducible assumption | with_reducible apply Blk.new | with_reducible exact Blk.newAt (by first | rfl | (simp; done) | (simp; omega)) | with_reducible apply Blk.alloc | with_reducible apply Blk.drew | with_reducible apply Blk.drewN | with_reducible apply Blk.keep0 (hm := by with_reducible assumption) | with_reducible apply Blk.keep (hm := by with_reducible assumption) (hg := by omega) | with_reducible apply Blk.far (hp := by first | omega | (simp; done) | (simp; omega)) | with_reducible apply Blk.set1 | rfl)), (by repeat (first | with_reducible assumption | with_reducible apply Blk.new | with_reducible exact Blk.newAt (by first | rfl | (simp; done) | (simp; omega)) | with_reducible apply Blk.alloc | with_reducible apply Blk.drew | with_reducible apply Blk.drewN | with_reducible apply Blk.keep0 (hm := by with_reducible assumption) | with_reducible apply Blk.keep (hm := by with_reducible assumption) (hg := by omega) | with_reducible apply Blk.far (hp := by first | omega | (simp; done) | (simp; omega)) | with_reducible apply Blk.set1 | rfl)), (by repeat (first | with_reducible assumption | with_reducible apply Blk.new | with_reducible exact Blk.newAt (by first | rfl | (simp; done) | (simp; omega)) | with_reducible apply Blk.alloc | with_reducible apply Blk.drew | with_reducible apply Blk.drewN | with_reducible apply Blk.keep0 (hm := by with_reducible assumption) | with_reducible apply Blk.keep (hm := by with_reducible assumption) (hg := by omega) | with_reducible apply Blk.far (hp := by first | omega | (simp; done) | (simp; omega)) | with_reducible apply Blk.set1 | rfl)), by first | omega | (simp; omega), by first | omega | (simp; omega), (by repeat (first | with_reducible assumption | with_reducible apply Blk.new | with_reducible exact Blk.newAt (by first | rfl | (simp; done) | (simp; omega)) | with_reducible apply Blk.alloc | with_reducible apply Blk.drew | with_reducible apply Blk.drewN | with_reducible apply Blk.keep0 (hm := by with_reducible assumption) | with_reducible apply Blk.keep (hm := by with_reducible assumption) (hg := by omega) | with_reducible apply Blk.far (hp := by first | omega | (simp; done) | (simp; omega)) | with_reducible apply Blk.set1 | rfl)), (by repeat (first | with_reducible assumption | with_reducible apply Blk.new | with_reducible exact Blk.newAt (by first | rfl | (simp; done) | (simp; omega)) | with_reducible apply Blk.alloc | with_reducible apply Blk.drew | with_reducible apply Blk.drewN | with_reducible apply Blk.keep0 (hm := by with_reducible assumption) | with_reducible apply Blk.keep (hm := by with_reducible assumption) (hg := by omega) | with_reducible apply Blk.far (hp := by first | omega | (simp; done) | (simp; omega)) | with_reducible apply Blk.set1 | rfl)), (by repeat (first | with_reducible exact Mod.refl _ _ | with_reducible assumption | with_reducible refine Mod.alloc ?_ _ | with_reducible refine Mod.drew ?_ | with_reducible refine Mod.drewN ?_ _ | with_reducible refine Mod.setCell ?_ (by first | exact .inl rfl | (left; (try unfold from_); show _ ≤ _; first | omega | (simp; done) | (simp; omega)) | (right; first | omega | (simp; done) | (simp; omega))) _ | with_reducible refine Mod.call0 ?_ (by with_reducible assumption) | with_reducible refine Mod.call ?_ (by with_reducible assumption) (by rintro _ rfl; first | exact .inl rfl | (right; (first | omega | (simp; done) | (simp; omega))))))⟩
      case rest =>
        obtain ⟨p12, p13, rfl, rfl, h12, h13, h9, n12, n13, h4, h5, hmc⟩ := hcut
        have c_h12 := h12.cell; have f_h12 := h12.frozen; have l_h12 := h12.lt; have c_h13 := h13.cell; have f_h13 := h13.frozen; have l_h13 := h13.lt; have c_h9 := h9.cell; have f_h9 := h9.frozen; have l_h9 := h9.lt; have c_h4 := h4.cell; have f_h4 := h4.frozen; have l_h4 := h4.lt; have c_h5 := h5.cell; have f_h5 := h5.frozen; have l_h5 := h5.lt
        rcases HC.out with ⟨⟨q1, q2⟩, rfl, rfl⟩ | ⟨q1, rfl, rfl⟩
        all_goals
          go_wp2_with (go_at_call 27; (with_reducible refine (ok_calls _ _ _ _).mono ?_); rintro e w6 ⟨rfl, hbw6⟩; have hzw6 := hbw6.size; (try simp at hzw6); (try (have ltw60 : p12 < w6.heap.size := (by omega); have lcw60 := fun o => hbw6.cell (b := p12) o (by first | omega | (simp; done) | (simp; omega)) (id); have lfw60 := fun o => hbw6.frozen (b := p12) o (by first | omega | (simp; done) | (simp; omega)) (id))); (try (have ltw61 : p13 < w6.heap.size := (by omega); have lcw61 := fun o => hbw6.cell (b := p13) o (by first | omega | (simp; done) | (simp; omega)) (id); have lfw61 := fun o => hbw6.frozen (b := p13) o (by first | omega | (simp; done) | (simp; omega)) (id))); (try (have ltw62 : w2.heap.size < w6.heap.size := (by omega); have lcw62 := fun o => hbw6.cell (b := w2.heap.size) o (by first | omega | (simp; done) | (simp; omega)) (id); have lfw62 := fun o => hbw6.frozen (b := w2.heap.size) o (by first | omega | (simp; done) | (simp; omega)) (id))); (try (have ltw63 : w.heap.size < w6.heap.size := (by omega); have lcw63 := fun o => hbw6.cell (b := w.heap.size) o (by first | omega | (simp; done) | (simp; omega)) (id); have lfw63 := fun o => hbw6.frozen (b := w.heap.size) o (by first | omega | (simp; done) | (simp; omega)) (id))); (try (have ltw64 : w.heap.size + 1 < w6.heap.size := (by omega); have lcw64 := fun o => hbw6.cell (b := w.heap.size + 1) o (by first | omega | (simp; done) | (simp; omega)) (id); have lfw64 := fun o => hbw6.frozen (b := w.heap.size + 1) o (by first | omega | (simp; done) | (simp; omega)) (id))); rw [HO.out])
          all_goals
           go_roundw
           case rel => exact ⟨k + 1, b0, b3, by go_num, by omega, .inr ⟨by omega, rfl, rfl⟩, (by rw [show (((k + 1 : Nat)) : Int) = (k : Int) + 1 from by omega]; exact (by repeat (first | with_reducible assumption | with_reducible apply Blk.new | with_reducible exact Blk.newAt (by first | rfl | (simp; done) | (simp; omega)) | with_reducible apply Blk.alloc | with_reducible apply Blk.drew | with_reducible apply Blk.drewN | with_reducible apply Blk.keep0 (hm := by with_reducible assumption) | with_reducible apply Blk.keep (hm := by with_reducible assumption) (hg := by omega) | with_reducible apply Blk.far (hp := by first | omega | (simp; done) | (simp; omega)) | with_reducible apply Blk.set1 | rfl))), (by repeat (first | with_reducible assumption | with_reducible apply Blk.new | with_reducible exact Blk.newAt (by first | rfl | (simp; done) | (simp; omega)) | with_reducible apply Blk.alloc | with_reducible apply Blk.drew | with_reducible apply Blk.drewN | with_reducible apply Blk.keep0 (hm := by with_reducible assumption) | with_reducible apply Blk.keep (hm := by with_reducible assumption) (hg := by omega) | with_reducible apply Blk.far (hp := by first | omega | (simp; done) | (simp; omega)) | with_reducible apply Blk.set1 | rfl)), (by repeat (first | with_reducible assumption | with_reducible apply Blk.new | with_reducible exact Blk.newAt (by first | rfl | (simp; done) | (simp; omega)) | with_reducible apply Blk.alloc | with_reducible apply Blk.drew | with_reducible apply Blk.drewN | with_reducible apply Blk.keep0 (hm := by with_reducible assumption) | with_reducible apply Blk.keep (hm := by with_reducible assumption) (hg := by omega) | with_reducible apply Blk.far (hp := by first | omega | (simp; done) | (simp; omega)) | with_reducible apply Blk.set1 | rfl)), (by repeat (first | with_reducible exact Mod.refl _ _ | with_reducible assumption | with_reducible refine Mod.alloc ?_ _ | with_reducible refine Mod.drew ?_ | with_reducible refine Mod.drewN ?_ _ | with_reducible refine Mod.setCell ?_ (by first | exact .inl rfl | (left; (try unfold from_); show _ ≤ _; first | omega | (simp; done) | (simp; omega)) | (right; first | omega | (simp; done) | (simp; omega))) _ | with_reducible refine Mod.call0 ?_ (by with_reducible assumption) | with_reducible refine Mod.call ?_ (by with_reducible assumption) (by rintro _ rfl; first | exact .inl rfl | (right; (first | omega | (simp; done) | (simp; omega))))))⟩
           case measure => simp [intOf]; omega
    · have hfm := fld_manager
      go_wp2_with (go_at_call 31; (with_reducible refine (marks_calls _).mono ?_); rintro e w7 ⟨rfl, hbw7⟩; have hzw7 := hbw7.size; (try simp at hzw7); skip; skip)
      go_ret
      exact ⟨rfl, (by repeat (first | with_reducible exact Mod.refl _ _ | with_reducible assumption | with_reducible refine Mod.alloc ?_ _ | with_reducible refine Mod.drew ?_ | with_reducible refine Mod.drewN ?_ _ | with_reducible refine Mod.setCell ?_ (by first | exact .inl rfl | (left; (try unfold from_); show _ ≤ _; first | omega | (simp; done) | (simp; omega)) | (right; first | omega | (simp; done) | (simp; omega))) _ | with_reducible refine Mod.call0 ?_ (by with_reducible assumption) | with_reducible refine Mod.call ?_ (by with_reducible assumption) (by rintro _ rfl; first | exact .inl rfl | (right; (first | omega | (simp; done) | (simp; omega))))))⟩
end Go.Proofs.Ytdbheagfnodfmaa
