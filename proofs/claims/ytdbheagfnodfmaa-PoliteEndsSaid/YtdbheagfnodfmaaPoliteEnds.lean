/- Polite against one foe, again and again: the law PoliteEnds, walked. -/
import Derived.Test.YtdbheagfnodfmaaPoliteRef
import Derived.LoopTactic
namespace Go.Proofs.Ytdbheagfnodfmaa
open Go.RowKit

theorem polite_marks_calls (w : World) : Calls Try.prog 32 #[.agg #[]] w fun en w' => en = .returned (.bool false) ∧ Mod nowhere w w' := by
  go_enter Try.func32, Try.ntmps32
  go_wp2
  go_ret
  exact ⟨rfl, (by repeat (first | with_reducible exact Mod.refl _ _ | with_reducible assumption | with_reducible refine Mod.alloc ?_ _ | with_reducible refine Mod.drew ?_ | with_reducible refine Mod.drewN ?_ _ | with_reducible refine Mod.setCell ?_ (by first | exact .inl rfl | (left; (try unfold from_); show _ ≤ _; first | omega | (simp; done) | (simp; omega)) | (right; first | omega | (simp; done) | (simp; omega))) _ | with_reducible refine Mod.call0 ?_ (by with_reducible assumption) | with_reducible refine Mod.call ?_ (by with_reducible assumption) (by rintro _ rfl; first | exact .inl rfl | (right; (first | omega | (simp; done) | (simp; omega))))))⟩
theorem fld_polite (w : World) : (Instr.field 60 (.agg #[]) 0).run Try.prog w = .ok (.agg #[]) w := by kernel_rfl
theorem polite_le (draw t wait : Int) (ht : 1 ≤ t) (h4 : t ≤ 4) (h : 1 ≤ wait) : politeS draw t wait ≤ (2 : Int) ^ t.toNat := by
  unfold politeS politeN
  rw [if_neg (by omega)]
  have hp : t = 1 ∨ t = 2 ∨ t = 3 ∨ t = 4 := by omega
  rcases hp with rfl | rfl | rfl | rfl
  all_goals
    simp only [show ((1 : Int).toNat) = 1 from rfl, show ((2 : Int).toNat) = 2 from rfl, show ((3 : Int).toNat) = 3 from rfl, show ((4 : Int).toNat) = 4 from rfl]
    simp only [show (2 : Int) ^ 1 = 2 from rfl, show (2 : Int) ^ 2 = 4 from rfl, show (2 : Int) ^ 3 = 8 from rfl, show (2 : Int) ^ 4 = 16 from rfl]
    unfold forF
    repeat' split
    all_goals omega

set_option maxHeartbeats 4000000 in
theorem law_politeEnds (a0 a1 a2 a3 : Int) (a4 : Bool) (b0 b1 b2 b3 : Int) (b4 : Bool) (A : Option Addr) (n c : Nat) (l : List Int) (wt : Int) (w : World) (h0 : 0 ≤ wt) (h1 : wt ≤ 255) (hl : l.length = n) (hr : Reads w w.heap.size 1 A n (l.map (Value.int .i64))) :
    Calls Try.prog 13 #[.agg #[.int .i64 a0, .int .i64 a1, .int .i64 a2, .int .i64 a3, .bool a4],
      .agg #[.int .i64 b0, .int .i64 b1, .int .i64 b2, .int .i64 b3, .bool b4], .slice A n c, .int .u8 wt] w
     fun en w' => en = .returned (.bool true) ∧ Mod nowhere w w' := by
  have early : (20 < n ∨ b0 < 0) ∨ (n ≤ 20 ∧ 0 ≤ b0) := by omega
  rcases early with h | ⟨g0, g1⟩
  · go_enter Try.func13, Try.ntmps13
    go_wp2_with fail
    (with_reducible refine (alive6_calls _).mono ?_)
    rintro e w1 ⟨rfl, hbw1⟩
    have hzw1 := hbw1.size
    (try simp at hzw1)
    (try (have ltw10 : w.heap.size < w1.heap.size := (by omega); have lcw10 := fun o => hbw1.cell (b := w.heap.size) o (by first | omega | (simp; done) | (simp; omega)) (id); have lfw10 := fun o => hbw1.frozen (b := w.heap.size) o (by first | omega | (simp; done) | (simp; omega)) (id)))
    (try (have ltw11 : w.heap.size + 1 < w1.heap.size := (by omega); have lcw11 := fun o => hbw1.cell (b := w.heap.size + 1) o (by first | omega | (simp; done) | (simp; omega)) (id); have lfw11 := fun o => hbw1.frozen (b := w.heap.size + 1) o (by first | omega | (simp; done) | (simp; omega)) (id)))
    skip
    go_wp2
    all_goals first | (exfalso; omega) | skip
    all_goals go_ret
    all_goals exact ⟨rfl, (by repeat (first | with_reducible exact Mod.refl _ _ | with_reducible assumption | with_reducible refine Mod.alloc ?_ _ | with_reducible refine Mod.drew ?_ | with_reducible refine Mod.drewN ?_ _ | with_reducible refine Mod.setCell ?_ (by first | exact .inl rfl | (left; (try unfold from_); show _ ≤ _; first | omega | (simp; done) | (simp; omega)) | (right; first | omega | (simp; done) | (simp; omega))) _ | with_reducible refine Mod.call0 ?_ (by with_reducible assumption) | with_reducible refine Mod.call ?_ (by with_reducible assumption) (by rintro _ rfl; first | exact .inl rfl | (right; (first | omega | (simp; done) | (simp; omega))))))⟩
  have hwt : 0 ≤ wt % 64 ∧ wt % 64 < 64 := by omega
  have HR := hide hr
  have HL := hide hl
  clear hr hl
  go_enter Try.func13, Try.ntmps13
  go_wp2_with fail
  (with_reducible refine (alive6_calls _).mono ?_)
  rintro e w1 ⟨rfl, hbw1⟩
  have hzw1 := hbw1.size
  (try simp at hzw1)
  (try (have ltw10 : w.heap.size < w1.heap.size := (by omega); have lcw10 := fun o => hbw1.cell (b := w.heap.size) o (by first | omega | (simp; done) | (simp; omega)) (id); have lfw10 := fun o => hbw1.frozen (b := w.heap.size) o (by first | omega | (simp; done) | (simp; omega)) (id)))
  (try (have ltw11 : w.heap.size + 1 < w1.heap.size := (by omega); have lcw11 := fun o => hbw1.cell (b := w.heap.size + 1) o (by first | omega | (simp; done) | (simp; omega)) (id); have lfw11 := fun o => hbw1.frozen (b := w.heap.size + 1) o (by first | omega | (simp; done) | (simp; omega)) (id)))
  skip
  go_wp2_with fail
  (with_reducible refine (fresh_calls _).mono ?_)
  rintro e w2 ⟨rfl, hbw2⟩
  have hzw2 := hbw2.size
  (try simp at hzw2)
  (try (have ltw20 : w.heap.size < w2.heap.size := (by omega); have lcw20 := fun o => hbw2.cell (b := w.heap.size) o (by first | omega | (simp; done) | (simp; omega)) (id); have lfw20 := fun o => hbw2.frozen (b := w.heap.size) o (by first | omega | (simp; done) | (simp; omega)) (id)))
  (try (have ltw21 : w.heap.size + 1 < w2.heap.size := (by omega); have lcw21 := fun o => hbw2.cell (b := w.heap.size + 1) o (by first | omega | (simp; done) | (simp; omega)) (id); have lfw21 := fun o => hbw2.frozen (b := w.heap.size + 1) o (by first | omega | (simp; done) | (simp; omega)) (id)))
  skip
  go_wp2_with fail
  go_loopw [11, 12, 13] (fun s11 _ _ wx => ∃ (k : Nat) (f p : Int), s11 = .int .i64 k ∧ k ≤ n ∧ ((k = 0 ∧ f = -1 ∧ p = 0) ∨ (0 < k ∧ f = b0 ∧ p = b3)) ∧ Blk wx w2.heap.size 23 #[.int .i64 f, .int .i64 k, .int .i64 0, .int .i64 p, .int .i64 0] ∧
      Blk wx w.heap.size 25 #[.int .i64 a0, .int .i64 a1, .int .i64 a2, .int .i64 a3, .bool a4] ∧ Blk wx (w.heap.size + 1) 25 #[.int .i64 b0, .int .i64 b1, .int .i64 b2, .int .i64 b3, .bool b4] ∧ Mod nowhere w wx)
    (fun s11 _ _ _ => (300 - (intOf s11)).toNat)
  case atStart =>
    refine ⟨0, -1, 0, rfl, Nat.zero_le _, .inl ⟨rfl, rfl, rfl⟩, ?_, (by repeat (first | with_reducible assumption | with_reducible apply Blk.new | with_reducible exact Blk.newAt (by first | rfl | (simp; done) | (simp; omega)) | with_reducible apply Blk.alloc | with_reducible apply Blk.drew | with_reducible apply Blk.drewN | with_reducible apply Blk.keep0 (hm := by with_reducible assumption) | with_reducible apply Blk.keep (hm := by with_reducible assumption) (hg := by omega) | with_reducible apply Blk.far (hp := by first | omega | (simp; done) | (simp; omega)) | with_reducible apply Blk.set1 | rfl)), (by repeat (first | with_reducible assumption | with_reducible apply Blk.new | with_reducible exact Blk.newAt (by first | rfl | (simp; done) | (simp; omega)) | with_reducible apply Blk.alloc | with_reducible apply Blk.drew | with_reducible apply Blk.drewN | with_reducible apply Blk.keep0 (hm := by with_reducible assumption) | with_reducible apply Blk.keep (hm := by with_reducible assumption) (hg := by omega) | with_reducible apply Blk.far (hp := by first | omega | (simp; done) | (simp; omega)) | with_reducible apply Blk.set1 | rfl)), (by repeat (first | with_reducible exact Mod.refl _ _ | with_reducible assumption | with_reducible refine Mod.alloc ?_ _ | with_reducible refine Mod.drew ?_ | with_reducible refine Mod.drewN ?_ _ | with_reducible refine Mod.setCell ?_ (by first | exact .inl rfl | (left; (try unfold from_); show _ ≤ _; first | omega | (simp; done) | (simp; omega)) | (right; first | omega | (simp; done) | (simp; omega))) _ | with_reducible refine Mod.call0 ?_ (by with_reducible assumption) | with_reducible refine Mod.call ?_ (by with_reducible assumption) (by rintro _ rfl; first | exact .inl rfl | (right; (first | omega | (simp; done) | (simp; omega))))))⟩
    show Blk _ _ _ #[.int .i64 (-1), .int .i64 0, .int .i64 0, .int .i64 0, .int .i64 0]
    exact (by repeat (first | with_reducible assumption | with_reducible apply Blk.new | with_reducible exact Blk.newAt (by first | rfl | (simp; done) | (simp; omega)) | with_reducible apply Blk.alloc | with_reducible apply Blk.drew | with_reducible apply Blk.drewN | with_reducible apply Blk.keep0 (hm := by with_reducible assumption) | with_reducible apply Blk.keep (hm := by with_reducible assumption) (hg := by omega) | with_reducible apply Blk.far (hp := by first | omega | (simp; done) | (simp; omega)) | with_reducible apply Blk.set1 | rfl))
  case round =>
    obtain ⟨k, f, p, rfl, hk, hst, hb1, hb2, hb3, hmr⟩ := hrel
    by_cases hlt : k < n
    · obtain ⟨b, o, rfl, hbl, hcell⟩ := HR.out.form (by omega) (by omega)
      have hd : (l.map (Value.int .i64))[k]? = some (.int .i64 (l[k]'(by have := HL.out; omega))) := by
        rw [List.getElem?_map, List.getElem?_eq_getElem (by have := HL.out; omega)]; rfl
      have hcd := (hmr.cell (o + k) hbl (fun x => x)).trans (hcell k _ hd)
      generalize l[k]'(by have := HL.out; omega) = d at hcd
      clear hd hcell
      have hbr : b < wr.heap.size := by have := hmr.size; omega
      have hM := hide (show metF ⟨f, k, 0, p, 0⟩ ⟨b0, b1, b2, b3, b4⟩ = ⟨b0, (k : Int) + 1, 0, b3, 0⟩ by
        rcases hst with ⟨rfl, rfl, rfl⟩ | ⟨hp, rfl, rfl⟩
        · unfold metF; rw [if_neg (by simp only; omega)]; simp
        · unfold metF moreF; rw [if_pos rfl]; simp; omega)
      have ik : I64 k := by unfold I64; omega
      have hK : ∃ K S : Int, politeK ((k : Int) + 1) = K ∧ politeS d ((k : Int) + 1) (1 + wt % 64) = S ∧ okF K S (1 + wt % 64) = true ∧
          ((4 ≤ k ∧ K = 1 ∧ S = 0) ∨ (k < 4 ∧ K = 2 ∧ S ≤ (2 : Int) ^ (k + 1))) := by
        have ho := polite_ok d ((k : Int) + 1) (1 + wt % 64) (by omega)
        by_cases hc : 4 ≤ k
        · have e1 : politeK ((k : Int) + 1) = 1 := if_pos (by omega)
          have e2 : politeS d ((k : Int) + 1) (1 + wt % 64) = 0 := if_pos (by omega)
          rw [e1, e2] at ho
          exact ⟨1, 0, e1, e2, ho, .inl ⟨hc, rfl, rfl⟩⟩
        · have e1 : politeK ((k : Int) + 1) = 2 := if_neg (by omega)
          have e3 := polite_le d ((k : Int) + 1) (1 + wt % 64) (by omega) (by omega) (by omega)
          rw [e1] at ho
          exact ⟨2, _, e1, rfl, ho, .inr ⟨by omega, rfl, e3⟩⟩
      obtain ⟨K, S, hK1, hS1, hO, hcase⟩ := hK
      have HK := hide hK1
      have HS := hide hS1
      have HO := hide hO
      have HC := hide hcase
      clear hK1 hS1 hO hcase hst
      have c_hb1 := hb1.cell; have f_hb1 := hb1.frozen; have l_hb1 := hb1.lt; have c_hb2 := hb2.cell; have f_hb2 := hb2.frozen; have l_hb2 := hb2.lt; have c_hb3 := hb3.cell; have f_hb3 := hb3.frozen; have l_hb3 := hb3.lt
      go_upto_region 10 with fail
      go_cut [12, 13] (fun s12 s13 wx => ∃ p12 p13 : Nat, s12 = .pointer (some ⟨p12, 0, none⟩) ∧ s13 = .pointer (some ⟨p13, 0, none⟩) ∧ Blk wx p12 40 #[.int .i64 K, .int .i64 S] ∧ Blk wx p13 23 #[.int .i64 b0, .int .i64 ((k : Int) + 1), .int .i64 0, .int .i64 b3, .int .i64 0] ∧
        Blk wx w2.heap.size 23 #[.int .i64 f, .int .i64 k, .int .i64 0, .int .i64 p, .int .i64 0] ∧ p12 ≠ w2.heap.size ∧ p13 ≠ w2.heap.size ∧
        Blk wx w.heap.size 25 #[.int .i64 a0, .int .i64 a1, .int .i64 a2, .int .i64 a3, .bool a4] ∧ Blk wx (w.heap.size + 1) 25 #[.int .i64 b0, .int .i64 b1, .int .i64 b2, .int .i64 b3, .bool b4] ∧ Mod nowhere w wx)
      case first =>
        go_region_held3 (fun w' => w'.cell? ⟨w2.heap.size, 0, none⟩ = some (.int .i64 f) ∧ w'.cell? ⟨w2.heap.size, 1, none⟩ = some (.int .i64 k) ∧ w'.cell? ⟨w2.heap.size, 2, none⟩ = some (.int .i64 0) ∧ w'.cell? ⟨w2.heap.size, 3, none⟩ = some (.int .i64 p) ∧ w'.cell? ⟨w2.heap.size, 4, none⟩ = some (.int .i64 0) ∧ w'.cell? ⟨w.heap.size, 0, none⟩ = some (.int .i64 a0) ∧ w'.cell? ⟨w.heap.size, 1, none⟩ = some (.int .i64 a1) ∧ w'.cell? ⟨w.heap.size, 2, none⟩ = some (.int .i64 a2) ∧ w'.cell? ⟨w.heap.size, 3, none⟩ = some (.int .i64 a3) ∧ w'.cell? ⟨w.heap.size, 4, none⟩ = some (.bool a4) ∧ w'.cell? ⟨w.heap.size + 1, 0, none⟩ = some (.int .i64 b0) ∧ w'.cell? ⟨w.heap.size + 1, 1, none⟩ = some (.int .i64 b1) ∧ w'.cell? ⟨w.heap.size + 1, 2, none⟩ = some (.int .i64 b2) ∧ w'.cell? ⟨w.heap.size + 1, 3, none⟩ = some (.int .i64 b3) ∧ w'.cell? ⟨w.heap.size + 1, 4, none⟩ = some (.bool b4) ∧ w'.cell? ⟨b, o + k, none⟩ = some (.int .i64 d) ∧ Mod nowhere wr w') ((repeat' apply And.intro) <;> first | (simp [*]; done) | (go_simp; done) | exact (by repeat (first | with_reducible exact Mod.refl _ _ | with_reducible assumption | with_reducible refine Mod.alloc ?_ _ | with_reducible refine Mod.drew ?_ | with_reducible refine Mod.drewN ?_ _ | with_reducible refine Mod.setCell ?_ (by first | exact .inl rfl | (left; (try unfold from_); show _ ≤ _; first | omega | (simp; done) | (simp; omega)) | (right; first | omega | (simp; done) | (simp; omega))) _ | with_reducible refine Mod.call0 ?_ (by with_reducible assumption) | with_reducible refine Mod.call ?_ (by with_reducible assumption) (by rintro _ rfl; first | exact .inl rfl | (right; (first | omega | (simp; done) | (simp; omega))))))) (first | (go_at_call 29; (with_reducible refine (polite_calls _ _ _ _ _ _ _ _ _ _ _ _ _ _ _ _ _ _ ik).mono ?_); rintro e w5 ⟨rfl, hbw5⟩; have hzw5 := hbw5.size; (try simp at hzw5); (try (have ltw50 : w.heap.size < w5.heap.size := (by omega); have lcw50 := fun o => hbw5.cell (b := w.heap.size) o (by first | omega | (simp; done) | (simp; omega)) (id); have lfw50 := fun o => hbw5.frozen (b := w.heap.size) o (by first | omega | (simp; done) | (simp; omega)) (id))); (try (have ltw51 : w.heap.size + 1 < w5.heap.size := (by omega); have lcw51 := fun o => hbw5.cell (b := w.heap.size + 1) o (by first | omega | (simp; done) | (simp; omega)) (id); have lfw51 := fun o => hbw5.frozen (b := w.heap.size + 1) o (by first | omega | (simp; done) | (simp; omega)) (id))); (try (have ltw52 : w2.heap.size < w5.heap.size := (by omega); have lcw52 := fun o => hbw5.cell (b := w2.heap.size) o (by first | omega | (simp; done) | (simp; omega)) (id); have lfw52 := fun o => hbw5.frozen (b := w2.heap.size) o (by first | omega | (simp; done) | (simp; omega)) (id))); (try (have ltw53 : wr.heap.size < w5.heap.size := (by omega); have lcw53 := fun o => hbw5.cell (b := wr.heap.size) o (by first | omega | (simp; done) | (simp; omega)) (id); have lfw53 := fun o => hbw5.frozen (b := wr.heap.size) o (by first | omega | (simp; done) | (simp; omega)) (id))); (try (have ltw54 : wr.heap.size + 1 < w5.heap.size := (by omega); have lcw54 := fun o => hbw5.cell (b := wr.heap.size + 1) o (by first | omega | (simp; done) | (simp; omega)) (id); have lfw54 := fun o => hbw5.frozen (b := wr.heap.size + 1) o (by first | omega | (simp; done) | (simp; omega)) (id))); (try (have ltw55 : b < w5.heap.size := (by omega); have lcw55 := fun o => hbw5.cell (b := b) o (by first | omega | (simp; done) | (simp; omega)) (id); have lfw55 := fun o => hbw5.frozen (b := b) o (by first | omega | (simp; done) | (simp; omega)) (id))); simp only [hM.out, HK.out, HS.out]))
        all_goals
          go_wp2_with fail
          go_meet
        all_goals exact ⟨_, _, rfl, rfl, (by repeat (first | with_reducible assumption | with_reducible apply Blk.new | with_reducible exact Blk.newAt (by first | rfl | (simp; done) | (simp; omega)) | with_reducible apply Blk.alloc | with_reducible apply Blk.drew | with_reducible apply Blk.drewN | with_reducible apply Blk.keep0 (hm := by with_reducible assumption) | with_reducible apply Blk.keep (hm := by with_reducible assumption) (hg := by omega) | with_reducible apply Blk.far (hp := by first | omega | (simp; done) | (simp; omega)) | with_reducible apply Blk.set1 | rfl)), (by repeat (first | with_reducible assumption | with_reducible apply Blk.new | with_reducible exact Blk.newAt (by first | rfl | (simp; done) | (simp; omega)) | with_reducible apply Blk.alloc | with_reducible apply Blk.drew | with_reducible apply Blk.drewN | with_reducible apply Blk.keep0 (hm := by with_reducible assumption) | with_reducible apply Blk.keep (hm := by with_reducible assumption) (hg := by omega) | with_reducible apply Blk.far (hp := by first | omega | (simp; done) | (simp; omega)) | with_reducible apply Blk.set1 | rfl)), (by repeat (first | with_reducible assumption | with_reducible apply Blk.new | with_reducible exact Blk.newAt (by first | rfl | (simp; done) | (simp; omega)) | with_reducible apply Blk.alloc | with_reducible apply Blk.drew | with_reducible apply Blk.drewN | with_reducible apply Blk.keep0 (hm := by with_reducible assumption) | with_reducible apply Blk.keep (hm := by with_reducible assumption) (hg := by omega) | with_reducible apply Blk.far (hp := by first | omega | (simp; done) | (simp; omega)) | with_reducible apply Blk.set1 | rfl)), by first | omega | (simp; omega), by first | omega | (simp; omega), (by repeat (first | with_reducible assumption | with_reducible apply Blk.new | with_reducible exact Blk.newAt (by first | rfl | (simp; done) | (simp; omega)) | with_reducible apply Blk.alloc | with_reducible apply Blk.drew | with_reducible apply Blk.drewN | with_reducible apply Blk.keep0 (hm := by with_reducible assumption) | with_reducible apply Blk.keep (hm := by with_reducible assumption) (hg := by omega) | with_reducible apply Blk.far (hp := by first | omega | (simp; done) | (simp; omega)) | with_reducible apply Blk.set1 | rfl)), (by repeat (first | with_reducible assumption | with_reducible apply Blk.new | with_reducible exact Blk.newAt (by first | rfl | (simp; done) | (simp; omega)) | with_reducible apply Blk.alloc | with_reducible apply Blk.drew | with_reducible apply Blk.drewN | with_reducible apply Blk.keep0 (hm := by with_reducible assumption) | with_reducible apply Blk.keep (hm := by with_reducible assumption) (hg := by omega) | with_reducible apply Blk.far (hp := by first | omega | (simp; done) | (simp; omega)) | with_reducible apply Blk.set1 | rfl)), (by repeat (first | with_reducible exact Mod.refl _ _ | with_reducible assumption | with_reducible refine Mod.alloc ?_ _ | with_reducible refine Mod.drew ?_ | with_reducible refine Mod.drewN ?_ _ | with_reducible refine Mod.setCell ?_ (by first | exact .inl rfl | (left; (try unfold from_); show _ ≤ _; first | omega | (simp; done) | (simp; omega)) | (right; first | omega | (simp; done) | (simp; omega))) _ | with_reducible refine Mod.call0 ?_ (by with_reducible assumption) | with_reducible refine Mod.call ?_ (by with_reducible assumption) (by rintro _ rfl; first | exact .inl rfl | (right; (first | omega | (simp; done) | (simp; omega))))))⟩
      case rest =>
        obtain ⟨p12, p13, rfl, rfl, h12, h13, h9, n12, n13, h4, h5, hmc⟩ := hcut
        obtain ⟨x, hx⟩ : ∃ x : Int, (k : Int) = x := ⟨_, rfl⟩
        rw [hx] at h9 ⊢
        have c_h12 := h12.cell; have f_h12 := h12.frozen; have l_h12 := h12.lt; have c_h13 := h13.cell; have f_h13 := h13.frozen; have l_h13 := h13.lt; have c_h9 := h9.cell; have f_h9 := h9.frozen; have l_h9 := h9.lt; have c_h4 := h4.cell; have f_h4 := h4.frozen; have l_h4 := h4.lt; have c_h5 := h5.cell; have f_h5 := h5.frozen; have l_h5 := h5.lt
        have HC2 : ((x = 4 ∨ x = 5 ∨ x = 6 ∨ x = 7 ∨ x = 8 ∨ x = 9 ∨ x = 10 ∨ x = 11 ∨ x = 12 ∨ x = 13 ∨ x = 14 ∨ x = 15 ∨ x = 16 ∨ x = 17 ∨ x = 18 ∨ x = 19) ∧ K = 1 ∧ S = 0) ∨ (x = 0 ∧ K = 2 ∧ S ≤ 2) ∨ (x = 1 ∧ K = 2 ∧ S ≤ 4) ∨ (x = 2 ∧ K = 2 ∧ S ≤ 8) ∨ (x = 3 ∧ K = 2 ∧ S ≤ 16) := by
          rcases HC.out with ⟨q1, q2, q3⟩ | ⟨q1, q2, q3⟩
          · exact .inl ⟨by omega, q2, q3⟩
          · have hp : k = 0 ∨ k = 1 ∨ k = 2 ∨ k = 3 := by omega
            clear h9 h12 h13 h4 h5 hmc hb1 hb2 hb3 hmr
            rcases hp with rfl | rfl | rfl | rfl
            all_goals simp at q3 q2 hx ⊢
            all_goals omega
        clear HC HK HS hM
        have wr1 : IntKind.i64.wrap 1 = 1 := by decide
        have wr2 : IntKind.i64.wrap 2 = 2 := by decide
        have wr3 : IntKind.i64.wrap 3 = 3 := by decide
        have wr4 : IntKind.i64.wrap 4 = 4 := by decide
        have wr5 : IntKind.i64.wrap 5 = 5 := by decide
        have wr6 : IntKind.i64.wrap 6 = 6 := by decide
        have wr7 : IntKind.i64.wrap 7 = 7 := by decide
        have wr8 : IntKind.i64.wrap 8 = 8 := by decide
        have wr9 : IntKind.i64.wrap 9 = 9 := by decide
        have wr10 : IntKind.i64.wrap 10 = 10 := by decide
        have wr11 : IntKind.i64.wrap 11 = 11 := by decide
        have wr12 : IntKind.i64.wrap 12 = 12 := by decide
        have wr13 : IntKind.i64.wrap 13 = 13 := by decide
        have wr14 : IntKind.i64.wrap 14 = 14 := by decide
        have wr15 : IntKind.i64.wrap 15 = 15 := by decide
        have wr16 : IntKind.i64.wrap 16 = 16 := by decide
        have wr17 : IntKind.i64.wrap 17 = 17 := by decide
        have wr18 : IntKind.i64.wrap 18 = 18 := by decide
        have wr19 : IntKind.i64.wrap 19 = 19 := by decide
        have wr20 : IntKind.i64.wrap 20 = 20 := by decide
        rcases HC2 with ⟨q4, rfl, rfl⟩ | HC2
        · rcases q4 with rfl | rfl | rfl | rfl | rfl | rfl | rfl | rfl | rfl | rfl | rfl | rfl | rfl | rfl | rfl | rfl
          all_goals
            go_wp2_with fail
            go_region_held3 (fun w' => w'.cell? ⟨p12, 0, none⟩ = some (.int .i64 1) ∧ w'.cell? ⟨p12, 1, none⟩ = some (.int .i64 0) ∧ Mod nowhere wc w') ((repeat' apply And.intro) <;> first | (simp [*]; done) | (go_simp; done) | exact (by repeat (first | with_reducible exact Mod.refl _ _ | with_reducible assumption | with_reducible refine Mod.alloc ?_ _ | with_reducible refine Mod.drew ?_ | with_reducible refine Mod.drewN ?_ _ | with_reducible refine Mod.setCell ?_ (by first | exact .inl rfl | (left; (try unfold from_); show _ ≤ _; first | omega | (simp; done) | (simp; omega)) | (right; first | omega | (simp; done) | (simp; omega))) _ | with_reducible refine Mod.call0 ?_ (by with_reducible assumption) | with_reducible refine Mod.call ?_ (by with_reducible assumption) (by rintro _ rfl; first | exact .inl rfl | (right; (first | omega | (simp; done) | (simp; omega))))))) (first | (go_at_call 27; (with_reducible refine (ok_calls _ _ _ _).mono ?_); rintro e w6 ⟨rfl, hbw6⟩; have hzw6 := hbw6.size; (try simp at hzw6); (try (have ltw60 : p12 < w6.heap.size := (by omega); have lcw60 := fun o => hbw6.cell (b := p12) o (by first | omega | (simp; done) | (simp; omega)) (id); have lfw60 := fun o => hbw6.frozen (b := p12) o (by first | omega | (simp; done) | (simp; omega)) (id))); (try (have ltw61 : p13 < w6.heap.size := (by omega); have lcw61 := fun o => hbw6.cell (b := p13) o (by first | omega | (simp; done) | (simp; omega)) (id); have lfw61 := fun o => hbw6.frozen (b := p13) o (by first | omega | (simp; done) | (simp; omega)) (id))); (try (have ltw62 : w2.heap.size < w6.heap.size := (by omega); have lcw62 := fun o => hbw6.cell (b := w2.heap.size) o (by first | omega | (simp; done) | (simp; omega)) (id); have lfw62 := fun o => hbw6.frozen (b := w2.heap.size) o (by first | omega | (simp; done) | (simp; omega)) (id))); (try (have ltw63 : w.heap.size < w6.heap.size := (by omega); have lcw63 := fun o => hbw6.cell (b := w.heap.size) o (by first | omega | (simp; done) | (simp; omega)) (id); have lfw63 := fun o => hbw6.frozen (b := w.heap.size) o (by first | omega | (simp; done) | (simp; omega)) (id))); (try (have ltw64 : w.heap.size + 1 < w6.heap.size := (by omega); have lcw64 := fun o => hbw6.cell (b := w.heap.size + 1) o (by first | omega | (simp; done) | (simp; omega)) (id); have lfw64 := fun o => hbw6.frozen (b := w.heap.size + 1) o (by first | omega | (simp; done) | (simp; omega)) (id))); rw [HO.out]))
            all_goals
             go_wp2
             go_roundw
             case rel => exact ⟨k + 1, b0, b3, congrArg (Value.int .i64) (by omega), by omega, .inr ⟨by omega, rfl, rfl⟩, (by rw [show (((k + 1 : Nat)) : Int) = (k : Int) + 1 from by omega, hx]; exact (by repeat (first | with_reducible assumption | with_reducible apply Blk.new | with_reducible exact Blk.newAt (by first | rfl | (simp; done) | (simp; omega)) | with_reducible apply Blk.alloc | with_reducible apply Blk.drew | with_reducible apply Blk.drewN | with_reducible apply Blk.keep0 (hm := by with_reducible assumption) | with_reducible apply Blk.keep (hm := by with_reducible assumption) (hg := by omega) | with_reducible apply Blk.far (hp := by first | omega | (simp; done) | (simp; omega)) | with_reducible apply Blk.set1 | rfl))), (by repeat (first | with_reducible assumption | with_reducible apply Blk.new | with_reducible exact Blk.newAt (by first | rfl | (simp; done) | (simp; omega)) | with_reducible apply Blk.alloc | with_reducible apply Blk.drew | with_reducible apply Blk.drewN | with_reducible apply Blk.keep0 (hm := by with_reducible assumption) | with_reducible apply Blk.keep (hm := by with_reducible assumption) (hg := by omega) | with_reducible apply Blk.far (hp := by first | omega | (simp; done) | (simp; omega)) | with_reducible apply Blk.set1 | rfl)), (by repeat (first | with_reducible assumption | with_reducible apply Blk.new | with_reducible exact Blk.newAt (by first | rfl | (simp; done) | (simp; omega)) | with_reducible apply Blk.alloc | with_reducible apply Blk.drew | with_reducible apply Blk.drewN | with_reducible apply Blk.keep0 (hm := by with_reducible assumption) | with_reducible apply Blk.keep (hm := by with_reducible assumption) (hg := by omega) | with_reducible apply Blk.far (hp := by first | omega | (simp; done) | (simp; omega)) | with_reducible apply Blk.set1 | rfl)), (by repeat (first | with_reducible exact Mod.refl _ _ | with_reducible assumption | with_reducible refine Mod.alloc ?_ _ | with_reducible refine Mod.drew ?_ | with_reducible refine Mod.drewN ?_ _ | with_reducible refine Mod.setCell ?_ (by first | exact .inl rfl | (left; (try unfold from_); show _ ≤ _; first | omega | (simp; done) | (simp; omega)) | (right; first | omega | (simp; done) | (simp; omega))) _ | with_reducible refine Mod.call0 ?_ (by with_reducible assumption) | with_reducible refine Mod.call ?_ (by with_reducible assumption) (by rintro _ rfl; first | exact .inl rfl | (right; (first | omega | (simp; done) | (simp; omega))))))⟩
             case measure => simp [intOf]; omega
        · rcases HC2 with ⟨rfl, rfl, q3⟩ | ⟨rfl, rfl, q3⟩ | ⟨rfl, rfl, q3⟩ | ⟨rfl, rfl, q3⟩
          all_goals
            go_wp2_with fail
            go_region_held3 (fun w' => w'.cell? ⟨p12, 0, none⟩ = some (.int .i64 2) ∧ w'.cell? ⟨p12, 1, none⟩ = some (.int .i64 S) ∧ Mod nowhere wc w') ((repeat' apply And.intro) <;> first | (simp [*]; done) | (go_simp; done) | exact (by repeat (first | with_reducible exact Mod.refl _ _ | with_reducible assumption | with_reducible refine Mod.alloc ?_ _ | with_reducible refine Mod.drew ?_ | with_reducible refine Mod.drewN ?_ _ | with_reducible refine Mod.setCell ?_ (by first | exact .inl rfl | (left; (try unfold from_); show _ ≤ _; first | omega | (simp; done) | (simp; omega)) | (right; first | omega | (simp; done) | (simp; omega))) _ | with_reducible refine Mod.call0 ?_ (by with_reducible assumption) | with_reducible refine Mod.call ?_ (by with_reducible assumption) (by rintro _ rfl; first | exact .inl rfl | (right; (first | omega | (simp; done) | (simp; omega))))))) (first | (go_at_call 27; (with_reducible refine (ok_calls _ _ _ _).mono ?_); rintro e w6 ⟨rfl, hbw6⟩; have hzw6 := hbw6.size; (try simp at hzw6); (try (have ltw60 : p12 < w6.heap.size := (by omega); have lcw60 := fun o => hbw6.cell (b := p12) o (by first | omega | (simp; done) | (simp; omega)) (id); have lfw60 := fun o => hbw6.frozen (b := p12) o (by first | omega | (simp; done) | (simp; omega)) (id))); (try (have ltw61 : p13 < w6.heap.size := (by omega); have lcw61 := fun o => hbw6.cell (b := p13) o (by first | omega | (simp; done) | (simp; omega)) (id); have lfw61 := fun o => hbw6.frozen (b := p13) o (by first | omega | (simp; done) | (simp; omega)) (id))); (try (have ltw62 : w2.heap.size < w6.heap.size := (by omega); have lcw62 := fun o => hbw6.cell (b := w2.heap.size) o (by first | omega | (simp; done) | (simp; omega)) (id); have lfw62 := fun o => hbw6.frozen (b := w2.heap.size) o (by first | omega | (simp; done) | (simp; omega)) (id))); (try (have ltw63 : w.heap.size < w6.heap.size := (by omega); have lcw63 := fun o => hbw6.cell (b := w.heap.size) o (by first | omega | (simp; done) | (simp; omega)) (id); have lfw63 := fun o => hbw6.frozen (b := w.heap.size) o (by first | omega | (simp; done) | (simp; omega)) (id))); (try (have ltw64 : w.heap.size + 1 < w6.heap.size := (by omega); have lcw64 := fun o => hbw6.cell (b := w.heap.size + 1) o (by first | omega | (simp; done) | (simp; omega)) (id); have lfw64 := fun o => hbw6.frozen (b := w.heap.size + 1) o (by first | omega | (simp; done) | (simp; omega)) (id))); rw [HO.out]))
            all_goals
             go_wp2
             go_roundw
             case rel => exact ⟨k + 1, b0, b3, congrArg (Value.int .i64) (by omega), by omega, .inr ⟨by omega, rfl, rfl⟩, (by rw [show (((k + 1 : Nat)) : Int) = (k : Int) + 1 from by omega, hx]; exact (by repeat (first | with_reducible assumption | with_reducible apply Blk.new | with_reducible exact Blk.newAt (by first | rfl | (simp; done) | (simp; omega)) | with_reducible apply Blk.alloc | with_reducible apply Blk.drew | with_reducible apply Blk.drewN | with_reducible apply Blk.keep0 (hm := by with_reducible assumption) | with_reducible apply Blk.keep (hm := by with_reducible assumption) (hg := by omega) | with_reducible apply Blk.far (hp := by first | omega | (simp; done) | (simp; omega)) | with_reducible apply Blk.set1 | rfl))), (by repeat (first | with_reducible assumption | with_reducible apply Blk.new | with_reducible exact Blk.newAt (by first | rfl | (simp; done) | (simp; omega)) | with_reducible apply Blk.alloc | with_reducible apply Blk.drew | with_reducible apply Blk.drewN | with_reducible apply Blk.keep0 (hm := by with_reducible assumption) | with_reducible apply Blk.keep (hm := by with_reducible assumption) (hg := by omega) | with_reducible apply Blk.far (hp := by first | omega | (simp; done) | (simp; omega)) | with_reducible apply Blk.set1 | rfl)), (by repeat (first | with_reducible assumption | with_reducible apply Blk.new | with_reducible exact Blk.newAt (by first | rfl | (simp; done) | (simp; omega)) | with_reducible apply Blk.alloc | with_reducible apply Blk.drew | with_reducible apply Blk.drewN | with_reducible apply Blk.keep0 (hm := by with_reducible assumption) | with_reducible apply Blk.keep (hm := by with_reducible assumption) (hg := by omega) | with_reducible apply Blk.far (hp := by first | omega | (simp; done) | (simp; omega)) | with_reducible apply Blk.set1 | rfl)), (by repeat (first | with_reducible exact Mod.refl _ _ | with_reducible assumption | with_reducible refine Mod.alloc ?_ _ | with_reducible refine Mod.drew ?_ | with_reducible refine Mod.drewN ?_ _ | with_reducible refine Mod.setCell ?_ (by first | exact .inl rfl | (left; (try unfold from_); show _ ≤ _; first | omega | (simp; done) | (simp; omega)) | (right; first | omega | (simp; done) | (simp; omega))) _ | with_reducible refine Mod.call0 ?_ (by with_reducible assumption) | with_reducible refine Mod.call ?_ (by with_reducible assumption) (by rintro _ rfl; first | exact .inl rfl | (right; (first | omega | (simp; done) | (simp; omega))))))⟩
             case measure => simp [intOf]; omega
    · have hfm := fld_polite
      go_wp2_with (go_at_call 32; (with_reducible refine (polite_marks_calls _).mono ?_); rintro e w7 ⟨rfl, hbw7⟩; have hzw7 := hbw7.size; (try simp at hzw7); skip; skip)
      go_ret
      exact ⟨rfl, (by repeat (first | with_reducible exact Mod.refl _ _ | with_reducible assumption | with_reducible refine Mod.alloc ?_ _ | with_reducible refine Mod.drew ?_ | with_reducible refine Mod.drewN ?_ _ | with_reducible refine Mod.setCell ?_ (by first | exact .inl rfl | (left; (try unfold from_); show _ ≤ _; first | omega | (simp; done) | (simp; omega)) | (right; first | omega | (simp; done) | (simp; omega))) _ | with_reducible refine Mod.call0 ?_ (by with_reducible assumption) | with_reducible refine Mod.call ?_ (by with_reducible assumption) (by rintro _ rfl; first | exact .inl rfl | (right; (first | omega | (simp; done) | (simp; omega))))))⟩
end Go.Proofs.Ytdbheagfnodfmaa
