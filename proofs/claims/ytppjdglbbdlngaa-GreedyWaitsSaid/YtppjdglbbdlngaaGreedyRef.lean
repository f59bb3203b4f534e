/- The document's decision of Greedy, and the law that it is the program's. -/
import Derived.Test.YtppjdglbbdlngaaAliveGreedy
import Derived.BigQuiet
import Derived.Deep.QuietTactic
namespace Go.Proofs.Ytppjdglbbdlngaa
open Go.RowKit

set_option maxHeartbeats 2000000 in
theorem refgreedy_calls (s0 s1 s2 s3 s4 a0 a1 a2 a3 b0 b1 b2 b3 : Int) (a4 b4 : Bool) (draw wait : Int) (g : Nat) (w : World) (hg : Blk w g 35 #[.int .i64 s0, .int .i64 s1, .int .i64 s2, .int .i64 s3, .int .i64 s4])
    (h1 : I64 s1) (h4 : I64 s4) (m0 m1 m2 m3 m4 : Int) (hM : metF ⟨s0, s1, s2, s3, s4⟩ ⟨b0, b1, b2, b3, b4⟩ = ⟨m0, m1, m2, m3, m4⟩)
    (k st x0 x1 x2 x3 x4 : Int) (hD : greedyD a1 b1 b4 ⟨m0, m1, m2, m3, m4⟩ b3 wait = (k, st, ⟨x0, x1, x2, x3, x4⟩)) :
    Calls Try.prog 10 #[.pointer (some ⟨g, 0, none⟩), .agg #[.int .i64 a0, .int .i64 a1, .int .i64 a2, .int .i64 a3, .bool a4],
      .agg #[.int .i64 b0, .int .i64 b1, .int .i64 b2, .int .i64 b3, .bool b4], .int .i64 draw, .int .i64 wait] w
     fun en w' => en = .returned (.tuple #[.int .i64 k, .int .i64 st]) ∧ Blk w' g 35 #[.int .i64 x0, .int .i64 x1, .int .i64 x2, .int .i64 x3, .int .i64 x4] ∧ Mod (· = g) w w' := by
  have hm4 : I64 m4 := by have := metF_looks (s := ⟨s0, s1, s2, s3, s4⟩) (f := ⟨b0, b1, b2, b3, b4⟩) h4; rw [hM] at this; exact this
  have HM := hide hM
  have l_g := hg.lt
  clear hM
  unfold greedyD at hD
  by_cases c1 : a1 < b1
  · rw [if_pos (.inl c1)] at hD
    simp only [Prod.mk.injEq, St.mk.injEq] at hD
    obtain ⟨rfl, rfl, rfl, rfl, rfl, rfl, rfl⟩ := hD
    go_enter Try.func10, Try.ntmps10
    go_wp2_with fail
    (with_reducible refine (refmet_calls s0 s1 s2 s3 s4 _ _ _ _ ?hg h1 b4 b1 b2).mono ?_)
    case hg => exact (by repeat (first | with_reducible assumption | with_reducible apply Blk.new | with_reducible exact Blk.newAt (by first | rfl | (simp; done) | (simp; omega)) | with_reducible apply Blk.alloc | with_reducible apply Blk.drew | with_reducible apply Blk.drewN | with_reducible apply Blk.keep0 (hm := by with_reducible assumption) | with_reducible apply Blk.keep (hm := by with_reducible assumption) (hg := by omega) | with_reducible apply Blk.far (hp := by first | omega | (simp; done) | (simp; omega)) | with_reducible apply Blk.set1 | rfl))
    rintro en w1 ⟨rfl, hk, hm⟩
    rw [HM.out] at hk
    have hz := hm.size
    (try simp at hz)
    simp only [Value.cells] at hk
    have c_hk := hk.cell; have f_hk := hk.frozen; have l_hk := hk.lt
    (try (have ltw10 : w.heap.size < w1.heap.size := (by omega); have lcw10 := fun o => hm.cell (b := w.heap.size) o (by first | omega | (simp; done) | (simp; omega)) (by omega); have lfw10 := fun o => hm.frozen (b := w.heap.size) o (by first | omega | (simp; done) | (simp; omega)) (by omega)))
    (try (have ltw11 : w.heap.size + 1 < w1.heap.size := (by omega); have lcw11 := fun o => hm.cell (b := w.heap.size + 1) o (by first | omega | (simp; done) | (simp; omega)) (by omega); have lfw11 := fun o => hm.frozen (b := w.heap.size + 1) o (by first | omega | (simp; done) | (simp; omega)) (by omega)))
    go_wp2_with fail
    skip
    go_wp2
    go_ret2
    exact ⟨rfl, hk, (by repeat (first | with_reducible exact Mod.refl _ _ | with_reducible assumption | with_reducible refine Mod.alloc ?_ _ | with_reducible refine Mod.drew ?_ | with_reducible refine Mod.drewN ?_ _ | with_reducible refine Mod.setCell ?_ (by first | exact .inl rfl | (left; (try unfold from_); show _ ≤ _; first | omega | (simp; done) | (simp; omega)) | (right; first | omega | (simp; done) | (simp; omega))) _ | with_reducible refine Mod.call0 ?_ (by with_reducible assumption) | with_reducible refine Mod.call ?_ (by with_reducible assumption) (by rintro _ rfl; first | exact .inl rfl | (right; (first | omega | (simp; done) | (simp; omega))))))⟩
  have c1' : decide (a1 < b1) = false := decide_eq_false c1
  by_cases c2 : b4 = true
  · rw [if_pos (.inr c2)] at hD
    subst c2
    simp only [Prod.mk.injEq, St.mk.injEq] at hD
    obtain ⟨rfl, rfl, rfl, rfl, rfl, rfl, rfl⟩ := hD
    go_enter Try.func10, Try.ntmps10
    go_wp2_with fail
    (with_reducible refine (refmet_calls s0 s1 s2 s3 s4 _ _ _ _ ?hg h1 true b1 b2).mono ?_)
    case hg => exact (by repeat (first | with_reducible assumption | with_reducible apply Blk.new | with_reducible exact Blk.newAt (by first | rfl | (simp; done) | (simp; omega)) | with_reducible apply Blk.alloc | with_reducible apply Blk.drew | with_reducible apply Blk.drewN | with_reducible apply Blk.keep0 (hm := by with_reducible assumption) | with_reducible apply Blk.keep (hm := by with_reducible assumption) (hg := by omega) | with_reducible apply Blk.far (hp := by first | omega | (simp; done) | (simp; omega)) | with_reducible apply Blk.set1 | rfl))
    rintro en w1 ⟨rfl, hk, hm⟩
    rw [HM.out] at hk
    have hz := hm.size
    (try simp at hz)
    simp only [Value.cells] at hk
    have c_hk := hk.cell; have f_hk := hk.frozen; have l_hk := hk.lt
    (try (have ltw10 : w.heap.size < w1.heap.size := (by omega); have lcw10 := fun o => hm.cell (b := w.heap.size) o (by first | omega | (simp; done) | (simp; omega)) (by omega); have lfw10 := fun o => hm.frozen (b := w.heap.size) o (by first | omega | (simp; done) | (simp; omega)) (by omega)))
    (try (have ltw11 : w.heap.size + 1 < w1.heap.size := (by omega); have lcw11 := fun o => hm.cell (b := w.heap.size + 1) o (by first | omega | (simp; done) | (simp; omega)) (by omega); have lfw11 := fun o => hm.frozen (b := w.heap.size + 1) o (by first | omega | (simp; done) | (simp; omega)) (by omega)))
    go_wp2_with fail
    skip
    go_wp2
    go_ret2
    exact ⟨rfl, hk, (by repeat (first | with_reducible exact Mod.refl _ _ | with_reducible assumption | with_reducible refine Mod.alloc ?_ _ | with_reducible refine Mod.drew ?_ | with_reducible refine Mod.drewN ?_ _ | with_reducible refine Mod.setCell ?_ (by first | exact .inl rfl | (left; (try unfold from_); show _ ≤ _; first | omega | (simp; done) | (simp; omega)) | (right; first | omega | (simp; done) | (simp; omega))) _ | with_reducible refine Mod.call0 ?_ (by with_reducible assumption) | with_reducible refine Mod.call ?_ (by with_reducible assumption) (by rintro _ rfl; first | exact .inl rfl | (right; (first | omega | (simp; done) | (simp; omega))))))⟩
  rw [if_neg (fun h => h.elim c1 c2)] at hD
  have hb4 : b4 = false := by simpa using c2
  subst hb4
  generalize hL : lookF ⟨m0, m1, m2, m3, m4⟩ b3 = z at hD
  obtain ⟨z0, z1, z2, z3, z4⟩ := z
  have HL := hide hL
  clear hL c2
  by_cases c3 : wait < z4
  · rw [if_pos c3] at hD
    simp only [Prod.mk.injEq, St.mk.injEq] at hD
    obtain ⟨rfl, rfl, rfl, rfl, rfl, rfl, rfl⟩ := hD
    go_enter Try.func10, Try.ntmps10
    go_wp2_with fail
    (with_reducible refine (refmet_calls s0 s1 s2 s3 s4 _ _ _ _ ?hg h1 false b1 b2).mono ?_)
    case hg => exact (by repeat (first | with_reducible assumption | with_reducible apply Blk.new | with_reducible exact Blk.newAt (by first | rfl | (simp; done) | (simp; omega)) | with_reducible apply Blk.alloc | with_reducible apply Blk.drew | with_reducible apply Blk.drewN | with_reducible apply Blk.keep0 (hm := by with_reducible assumption) | with_reducible apply Blk.keep (hm := by with_reducible assumption) (hg := by omega) | with_reducible apply Blk.far (hp := by first | omega | (simp; done) | (simp; omega)) | with_reducible apply Blk.set1 | rfl))
    rintro en w1 ⟨rfl, hk, hm⟩
    rw [HM.out] at hk
    have hz := hm.size
    (try simp at hz)
    simp only [Value.cells] at hk
    have c_hk := hk.cell; have f_hk := hk.frozen; have l_hk := hk.lt
    (try (have ltw10 : w.heap.size < w1.heap.size := (by omega); have lcw10 := fun o => hm.cell (b := w.heap.size) o (by first | omega | (simp; done) | (simp; omega)) (by omega); have lfw10 := fun o => hm.frozen (b := w.heap.size) o (by first | omega | (simp; done) | (simp; omega)) (by omega)))
    (try (have ltw11 : w.heap.size + 1 < w1.heap.size := (by omega); have lcw11 := fun o => hm.cell (b := w.heap.size + 1) o (by first | omega | (simp; done) | (simp; omega)) (by omega); have lfw11 := fun o => hm.frozen (b := w.heap.size + 1) o (by first | omega | (simp; done) | (simp; omega)) (by omega)))
    go_wp2_with fail
    (with_reducible refine (reflook_calls m0 m1 m2 m3 m4 _ _ _ _ ?hg2 hm4).mono ?_)
    case hg2 => exact (by repeat (first | with_reducible assumption | with_reducible apply Blk.new | with_reducible exact Blk.newAt (by first | rfl | (simp; done) | (simp; omega)) | with_reducible apply Blk.alloc | with_reducible apply Blk.drew | with_reducible apply Blk.drewN | with_reducible apply Blk.keep0 (hm := by with_reducible assumption) | with_reducible apply Blk.keep (hm := by with_reducible assumption) (hg := by omega) | with_reducible apply Blk.far (hp := by first | omega | (simp; done) | (simp; omega)) | with_reducible apply Blk.set1 | rfl))
    rintro en w5 ⟨rfl, hk5, hm5⟩
    rw [HL.out] at hk5 ⊢
    simp only [Value.cells] at hk5
    have hzw5 := hm5.size
    (try simp at hzw5)
    go_wp2
    go_ret2
    exact ⟨rfl, (by repeat (first | with_reducible assumption | with_reducible apply Blk.new | with_reducible exact Blk.newAt (by first | rfl | (simp; done) | (simp; omega)) | with_reducible apply Blk.alloc | with_reducible apply Blk.drew | with_reducible apply Blk.drewN | with_reducible apply Blk.keep0 (hm := by with_reducible assumption) | with_reducible apply Blk.keep (hm := by with_reducible assumption) (hg := by omega) | with_reducible apply Blk.far (hp := by first | omega | (simp; done) | (simp; omega)) | with_reducible apply Blk.set1 | rfl)), (by repeat (first | with_reducible exact Mod.refl _ _ | with_reducible assumption | with_reducible refine Mod.alloc ?_ _ | with_reducible refine Mod.drew ?_ | with_reducible refine Mod.drewN ?_ _ | with_reducible refine Mod.setCell ?_ (by first | exact .inl rfl | (left; (try unfold from_); show _ ≤ _; first | omega | (simp; done) | (simp; omega)) | (right; first | omega | (simp; done) | (simp; omega))) _ | with_reducible refine Mod.call0 ?_ (by with_reducible assumption) | with_reducible refine Mod.call ?_ (by with_reducible assumption) (by rintro _ rfl; first | exact .inl rfl | (right; (first | omega | (simp; done) | (simp; omega))))))⟩
  · rw [if_neg c3] at hD
    simp only [Prod.mk.injEq, St.mk.injEq] at hD
    obtain ⟨rfl, rfl, rfl, rfl, rfl, rfl, rfl⟩ := hD
    have c3' : decide (wait < z4) = false := decide_eq_false c3
    go_enter Try.func10, Try.ntmps10
    go_wp2_with fail
    (with_reducible refine (refmet_calls s0 s1 s2 s3 s4 _ _ _ _ ?hg h1 false b1 b2).mono ?_)
    case hg => exact (by repeat (first | with_reducible assumption | with_reducible apply Blk.new | with_reducible exact Blk.newAt (by first | rfl | (simp; done) | (simp; omega)) | with_reducible apply Blk.alloc | with_reducible apply Blk.drew | with_reducible apply Blk.drewN | with_reducible apply Blk.keep0 (hm := by with_reducible assumption) | with_reducible apply Blk.keep (hm := by with_reducible assumption) (hg := by omega) | with_reducible apply Blk.far (hp := by first | omega | (simp; done) | (simp; omega)) | with_reducible apply Blk.set1 | rfl))
    rintro en w1 ⟨rfl, hk, hm⟩
    rw [HM.out] at hk
    have hz := hm.size
    (try simp at hz)
    simp only [Value.cells] at hk
    have c_hk := hk.cell; have f_hk := hk.frozen; have l_hk := hk.lt
    (try (have ltw10 : w.heap.size < w1.heap.size := (by omega); have lcw10 := fun o => hm.cell (b := w.heap.size) o (by first | omega | (simp; done) | (simp; omega)) (by omega); have lfw10 := fun o => hm.frozen (b := w.heap.size) o (by first | omega | (simp; done) | (simp; omega)) (by omega)))
    (try (have ltw11 : w.heap.size + 1 < w1.heap.size := (by omega); have lcw11 := fun o => hm.cell (b := w.heap.size + 1) o (by first | omega | (simp; done) | (simp; omega)) (by omega); have lfw11 := fun o => hm.frozen (b := w.heap.size + 1) o (by first | omega | (simp; done) | (simp; omega)) (by omega)))
    go_wp2_with fail
    (with_reducible refine (reflook_calls m0 m1 m2 m3 m4 _ _ _ _ ?hg2 hm4).mono ?_)
    case hg2 => exact (by repeat (first | with_reducible assumption | with_reducible apply Blk.new | with_reducible exact Blk.newAt (by first | rfl | (simp; done) | (simp; omega)) | with_reducible apply Blk.alloc | with_reducible apply Blk.drew | with_reducible apply Blk.drewN | with_reducible apply Blk.keep0 (hm := by with_reducible assumption) | with_reducible apply Blk.keep (hm := by with_reducible assumption) (hg := by omega) | with_reducible apply Blk.far (hp := by first | omega | (simp; done) | (simp; omega)) | with_reducible apply Blk.set1 | rfl))
    rintro en w5 ⟨rfl, hk5, hm5⟩
    rw [HL.out] at hk5 ⊢
    simp only [Value.cells] at hk5
    have hzw5 := hm5.size
    (try simp at hzw5)
    go_wp2_with (go_at_call 20; (with_reducible refine (steps_calls _ _ _).mono ?_); rintro e w' ⟨rfl, rfl⟩)
    go_ret2
    exact ⟨rfl, (by repeat (first | with_reducible assumption | with_reducible apply Blk.new | with_reducible exact Blk.newAt (by first | rfl | (simp; done) | (simp; omega)) | with_reducible apply Blk.alloc | with_reducible apply Blk.drew | with_reducible apply Blk.drewN | with_reducible apply Blk.keep0 (hm := by with_reducible assumption) | with_reducible apply Blk.keep (hm := by with_reducible assumption) (hg := by omega) | with_reducible apply Blk.far (hp := by first | omega | (simp; done) | (simp; omega)) | with_reducible apply Blk.set1 | rfl)), (by repeat (first | with_reducible exact Mod.refl _ _ | with_reducible assumption | with_reducible refine Mod.alloc ?_ _ | with_reducible refine Mod.drew ?_ | with_reducible refine Mod.drewN ?_ _ | with_reducible refine Mod.setCell ?_ (by first | exact .inl rfl | (left; (try unfold from_); show _ ≤ _; first | omega | (simp; done) | (simp; omega)) | (right; first | omega | (simp; done) | (simp; omega))) _ | with_reducible refine Mod.call0 ?_ (by with_reducible assumption) | with_reducible refine Mod.call ?_ (by with_reducible assumption) (by rintro _ rfl; first | exact .inl rfl | (right; (first | omega | (simp; done) | (simp; omega))))))⟩

set_option maxHeartbeats 4000000 in
theorem law_greedyDecides (s0 s1 s2 s3 s4 a0 a1 a2 a3 : Int) (a4 : Bool) (b0 b1 b2 b3 : Int) (b4 : Bool) (draw wait : Int) (w : World) (h1 : I64 s1) (h4 : I64 s4) :
    Calls Try.prog 3 #[.agg #[.int .i64 s0, .int .i64 s1, .int .i64 s2, .int .i64 s3, .int .i64 s4], .agg #[.int .i64 a0, .int .i64 a1, .int .i64 a2, .int .i64 a3, .bool a4],
      .agg #[.int .i64 b0, .int .i64 b1, .int .i64 b2, .int .i64 b3, .bool b4], .int .i64 draw, .int .i64 wait] w
     fun en w' => en = .returned (.bool true) ∧ Mod nowhere w w' := by
  generalize hM : metF ⟨s0, s1, s2, s3, s4⟩ ⟨b0, b1, b2, b3, b4⟩ = m
  obtain ⟨m0, m1, m2, m3, m4⟩ := m
  generalize hD : greedyD a1 b1 b4 ⟨m0, m1, m2, m3, m4⟩ b3 wait = z
  obtain ⟨K, S, x0, x1, x2, x3, x4⟩ := z
  have c1 := fun W => hide (greedy_calls s0 s1 s2 s3 s4 a0 a1 a2 a3 b0 b1 b2 b3 a4 b4 draw wait W h1 h4 m0 m1 m2 m3 m4 hM K S x0 x1 x2 x3 x4 hD)
  have c2 := fun g W hg => hide (refgreedy_calls s0 s1 s2 s3 s4 a0 a1 a2 a3 b0 b1 b2 b3 a4 b4 draw wait g W hg h1 h4 m0 m1 m2 m3 m4 hM K S x0 x1 x2 x3 x4 hD)
  clear hM hD
  go_enter Try.func3, Try.ntmps3
  go_wp2_with fail
  (with_reducible refine (alive9_calls _).mono ?_)
  rintro e w1 ⟨rfl, hbw1⟩
  have hzw1 := hbw1.size
  (try simp at hzw1)
  (try (have ltw10 : w.heap.size < w1.heap.size := (by omega); have lcw10 := fun o => hbw1.cell (b := w.heap.size) o (by first | omega | (simp; done) | (simp; omega)) (id); have lfw10 := fun o => hbw1.frozen (b := w.heap.size) o (by first | omega | (simp; done) | (simp; omega)) (id)))
  (try (have ltw11 : w.heap.size + 1 < w1.heap.size := (by omega); have lcw11 := fun o => hbw1.cell (b := w.heap.size + 1) o (by first | omega | (simp; done) | (simp; omega)) (id); have lfw11 := fun o => hbw1.frozen (b := w.heap.size + 1) o (by first | omega | (simp; done) | (simp; omega)) (id)))
  (try (have ltw12 : w.heap.size + 1 + 1 < w1.heap.size := (by omega); have lcw12 := fun o => hbw1.cell (b := w.heap.size + 1 + 1) o (by first | omega | (simp; done) | (simp; omega)) (id); have lfw12 := fun o => hbw1.frozen (b := w.heap.size + 1 + 1) o (by first | omega | (simp; done) | (simp; omega)) (id)))
  skip
  go_wp2_with fail
  (with_reducible refine ((c1 _).out).mono ?_)
  rintro e w2 ⟨rfl, hbw2⟩
  have hzw2 := hbw2.size
  (try simp at hzw2)
  (try (have ltw20 : w.heap.size < w2.heap.size := (by omega); have lcw20 := fun o => hbw2.cell (b := w.heap.size) o (by first | omega | (simp; done) | (simp; omega)) (id); have lfw20 := fun o => hbw2.frozen (b := w.heap.size) o (by first | omega | (simp; done) | (simp; omega)) (id)))
  (try (have ltw21 : w.heap.size + 1 < w2.heap.size := (by omega); have lcw21 := fun o => hbw2.cell (b := w.heap.size + 1) o (by first | omega | (simp; done) | (simp; omega)) (id); have lfw21 := fun o => hbw2.frozen (b := w.heap.size + 1) o (by first | omega | (simp; done) | (simp; omega)) (id)))
  (try (have ltw22 : w.heap.size + 1 + 1 < w2.heap.size := (by omega); have lcw22 := fun o => hbw2.cell (b := w.heap.size + 1 + 1) o (by first | omega | (simp; done) | (simp; omega)) (id); have lfw22 := fun o => hbw2.frozen (b := w.heap.size + 1 + 1) o (by first | omega | (simp; done) | (simp; omega)) (id)))
  skip
  go_wp2_with fail
  (with_reducible refine (plain_calls _ _ _ _ _ _).mono ?_)
  rintro e w3 ⟨rfl, hbw3⟩
  have hzw3 := hbw3.size
  (try simp at hzw3)
  (try (have ltw30 : w.heap.size < w3.heap.size := (by omega); have lcw30 := fun o => hbw3.cell (b := w.heap.size) o (by first | omega | (simp; done) | (simp; omega)) (id); have lfw30 := fun o => hbw3.frozen (b := w.heap.size) o (by first | omega | (simp; done) | (simp; omega)) (id)))
  (try (have ltw31 : w.heap.size + 1 < w3.heap.size := (by omega); have lcw31 := fun o => hbw3.cell (b := w.heap.size + 1) o (by first | omega | (simp; done) | (simp; omega)) (id); have lfw31 := fun o => hbw3.frozen (b := w.heap.size + 1) o (by first | omega | (simp; done) | (simp; omega)) (id)))
  (try (have ltw32 : w.heap.size + 1 + 1 < w3.heap.size := (by omega); have lcw32 := fun o => hbw3.cell (b := w.heap.size + 1 + 1) o (by first | omega | (simp; done) | (simp; omega)) (id); have lfw32 := fun o => hbw3.frozen (b := w.heap.size + 1 + 1) o (by first | omega | (simp; done) | (simp; omega)) (id)))
  (try (have ltw33 : w2.heap.size < w3.heap.size := (by omega); have lcw33 := fun o => hbw3.cell (b := w2.heap.size) o (by first | omega | (simp; done) | (simp; omega)) (id); have lfw33 := fun o => hbw3.frozen (b := w2.heap.size) o (by first | omega | (simp; done) | (simp; omega)) (id)))
  (try (have ltw34 : w2.heap.size + 1 < w3.heap.size := (by omega); have lcw34 := fun o => hbw3.cell (b := w2.heap.size + 1) o (by first | omega | (simp; done) | (simp; omega)) (id); have lfw34 := fun o => hbw3.frozen (b := w2.heap.size + 1) o (by first | omega | (simp; done) | (simp; omega)) (id)))
  skip
  go_upto_region 7 with fail
  go_cut [14, 15] (fun s14 s15 wx => s14 = .int .i64 K ∧ s15 = .int .i64 S ∧ Blk wx w3.heap.size 35 #[.int .i64 x0, .int .i64 x1, .int .i64 x2, .int .i64 x3, .int .i64 x4] ∧ Blk wx w2.heap.size 28 #[.int .i64 K, .int .i64 S] ∧ Blk wx (w2.heap.size + 1) 23 #[.int .i64 x0, .int .i64 x1, .int .i64 x2, .int .i64 x3, .int .i64 x4] ∧ Mod nowhere w wx)
  case first =>
    go_region_held3 (fun w' => w'.cell? ⟨w.heap.size + 1, 0, none⟩ = some (.int .i64 a0) ∧ w'.cell? ⟨w.heap.size + 1, 1, none⟩ = some (.int .i64 a1) ∧ w'.cell? ⟨w.heap.size + 1, 2, none⟩ = some (.int .i64 a2) ∧ w'.cell? ⟨w.heap.size + 1, 3, none⟩ = some (.int .i64 a3) ∧ w'.cell? ⟨w.heap.size + 1, 4, none⟩ = some (.bool a4) ∧ w'.cell? ⟨w.heap.size + 1 + 1, 0, none⟩ = some (.int .i64 b0) ∧ w'.cell? ⟨w.heap.size + 1 + 1, 1, none⟩ = some (.int .i64 b1) ∧ w'.cell? ⟨w.heap.size + 1 + 1, 2, none⟩ = some (.int .i64 b2) ∧ w'.cell? ⟨w.heap.size + 1 + 1, 3, none⟩ = some (.int .i64 b3) ∧ w'.cell? ⟨w.heap.size + 1 + 1, 4, none⟩ = some (.bool b4) ∧ Mod (from_ w3.heap.size) w3 w') ((repeat' apply And.intro) <;> first | (simp [*]; done) | (go_simp; done) | exact (by repeat (first | with_reducible exact Mod.refl _ _ | with_reducible assumption | with_reducible refine Mod.alloc ?_ _ | with_reducible refine Mod.drew ?_ | with_reducible refine Mod.drewN ?_ _ | with_reducible refine Mod.setCell ?_ (by first | exact .inl rfl | (left; (try unfold from_); show _ ≤ _; first | omega | (simp; done) | (simp; omega)) | (right; first | omega | (simp; done) | (simp; omega))) _ | with_reducible refine Mod.call0 ?_ (by with_reducible assumption) | with_reducible refine Mod.call ?_ (by with_reducible assumption) (by rintro _ rfl; first | exact .inl rfl | (right; (first | omega | (simp; done) | (simp; omega))))))) (first | (go_at_call 11; (with_reducible refine (side_calls _ _ _ _ _ _).mono ?_); rintro e w4 ⟨rfl, hbw4⟩; have hzw4 := hbw4.size; (try simp at hzw4); (try (have ltw40 : w.heap.size < w4.heap.size := (by omega); have lcw40 := fun o => hbw4.cell (b := w.heap.size) o (by first | omega | (simp; done) | (simp; omega)) (id); have lfw40 := fun o => hbw4.frozen (b := w.heap.size) o (by first | omega | (simp; done) | (simp; omega)) (id))); (try (have ltw41 : w.heap.size + 1 < w4.heap.size := (by omega); have lcw41 := fun o => hbw4.cell (b := w.heap.size + 1) o (by first | omega | (simp; done) | (simp; omega)) (id); have lfw41 := fun o => hbw4.frozen (b := w.heap.size + 1) o (by first | omega | (simp; done) | (simp; omega)) (id))); (try (have ltw42 : w.heap.size + 1 + 1 < w4.heap.size := (by omega); have lcw42 := fun o => hbw4.cell (b := w.heap.size + 1 + 1) o (by first | omega | (simp; done) | (simp; omega)) (id); have lfw42 := fun o => hbw4.frozen (b := w.heap.size + 1 + 1) o (by first | omega | (simp; done) | (simp; omega)) (id))); (try (have ltw43 : w2.heap.size < w4.heap.size := (by omega); have lcw43 := fun o => hbw4.cell (b := w2.heap.size) o (by first | omega | (simp; done) | (simp; omega)) (id); have lfw43 := fun o => hbw4.frozen (b := w2.heap.size) o (by first | omega | (simp; done) | (simp; omega)) (id))); (try (have ltw44 : w2.heap.size + 1 < w4.heap.size := (by omega); have lcw44 := fun o => hbw4.cell (b := w2.heap.size + 1) o (by first | omega | (simp; done) | (simp; omega)) (id); have lfw44 := fun o => hbw4.frozen (b := w2.heap.size + 1) o (by first | omega | (simp; done) | (simp; omega)) (id))); (try (have ltw45 : w3.heap.size < w4.heap.size := (by omega); have lcw45 := fun o => hbw4.cell (b := w3.heap.size) o (by first | omega | (simp; done) | (simp; omega)) (id); have lfw45 := fun o => hbw4.frozen (b := w3.heap.size) o (by first | omega | (simp; done) | (simp; omega)) (id))); skip) | (go_at_call 10; refine (c2 _ _ ?_).out.mono ?_; exact (by repeat (first | with_reducible assumption | with_reducible apply Blk.new | with_reducible exact Blk.newAt (by first | rfl | (simp; done) | (simp; omega)) | with_reducible apply Blk.alloc | with_reducible apply Blk.drew | with_reducible apply Blk.drewN | with_reducible apply Blk.keep0 (hm := by with_reducible assumption) | with_reducible apply Blk.keep (hm := by with_reducible assumption) (hg := by omega) | with_reducible apply Blk.far (hp := by first | omega | (simp; done) | (simp; omega)) | with_reducible apply Blk.set1 | rfl)); rintro en w5 ⟨rfl, hk5, hm5⟩; have hzw5 := hm5.size; (try simp at hzw5); (try (have ltw50 : w.heap.size < w5.heap.size := (by omega); have lcw50 := fun o => hm5.cell (b := w.heap.size) o (by first | omega | (simp; done) | (simp; omega)) (by omega); have lfw50 := fun o => hm5.frozen (b := w.heap.size) o (by first | omega | (simp; done) | (simp; omega)) (by omega))); (try (have ltw51 : w.heap.size + 1 < w5.heap.size := (by omega); have lcw51 := fun o => hm5.cell (b := w.heap.size + 1) o (by first | omega | (simp; done) | (simp; omega)) (by omega); have lfw51 := fun o => hm5.frozen (b := w.heap.size + 1) o (by first | omega | (simp; done) | (simp; omega)) (by omega))); (try (have ltw52 : w.heap.size + 1 + 1 < w5.heap.size := (by omega); have lcw52 := fun o => hm5.cell (b := w.heap.size + 1 + 1) o (by first | omega | (simp; done) | (simp; omega)) (by omega); have lfw52 := fun o => hm5.frozen (b := w.heap.size + 1 + 1) o (by first | omega | (simp; done) | (simp; omega)) (by omega))); (try (have ltw53 : w2.heap.size < w5.heap.size := (by omega); have lcw53 := fun o => hm5.cell (b := w2.heap.size) o (by first | omega | (simp; done) | (simp; omega)) (by omega); have lfw53 := fun o => hm5.frozen (b := w2.heap.size) o (by first | omega | (simp; done) | (simp; omega)) (by omega))); (try (have ltw54 : w2.heap.size + 1 < w5.heap.size := (by omega); have lcw54 := fun o => hm5.cell (b := w2.heap.size + 1) o (by first | omega | (simp; done) | (simp; omega)) (by omega); have lfw54 := fun o => hm5.frozen (b := w2.heap.size + 1) o (by first | omega | (simp; done) | (simp; omega)) (by omega)))))
    all_goals
      go_wp2_with fail
      go_meet
      exact ⟨rfl, rfl, (by repeat (first | with_reducible assumption | with_reducible apply Blk.new | with_reducible exact Blk.newAt (by first | rfl | (simp; done) | (simp; omega)) | with_reducible apply Blk.alloc | with_reducible apply Blk.drew | with_reducible apply Blk.drewN | with_reducible apply Blk.keep0 (hm := by with_reducible assumption) | with_reducible apply Blk.keep (hm := by with_reducible assumption) (hg := by omega) | with_reducible apply Blk.far (hp := by first | omega | (simp; done) | (simp; omega)) | with_reducible apply Blk.set1 | rfl)), (by repeat (first | with_reducible assumption | with_reducible apply Blk.new | with_reducible exact Blk.newAt (by first | rfl | (simp; done) | (simp; omega)) | with_reducible apply Blk.alloc | with_reducible apply Blk.drew | with_reducible apply Blk.drewN | with_reducible apply Blk.keep0 (hm := by with_reducible assumption) | with_reducible apply Blk.keep (hm := by with_reducible assumption) (hg := by omega) | with_reducible apply Blk.far (hp := by first | omega | (simp; done) | (simp; omega)) | with_reducible apply Blk.set1 | rfl)), (by repeat (first | with_reducible assumption | with_reducible apply Blk.new | with_reducible exact Blk.newAt (by first | rfl | (simp; done) | (simp; omega)) | with_reducible apply Blk.alloc | with_reducible apply Blk.drew | with_reducible apply Blk.drewN | with_reducible apply Blk.keep0 (hm := by with_reducible assumption) | with_reducible apply Blk.keep (hm := by with_reducible assumption) (hg := by omega) | with_reducible apply Blk.far (hp := by first | omega | (simp; done) | (simp; omega)) | with_reducible apply Blk.set1 | rfl)), (by repeat (first | with_reducible exact Mod.refl _ _ | with_reducible assumption | with_reducible refine Mod.alloc ?_ _ | with_reducible refine Mod.drew ?_ | with_reducible refine Mod.drewN ?_ _ | with_reducible refine Mod.setCell ?_ (by first | exact .inl rfl | (left; (try unfold from_); show _ ≤ _; first | omega | (simp; done) | (simp; omega)) | (right; first | omega | (simp; done) | (simp; omega))) _ | with_reducible refine Mod.call0 ?_ (by with_reducible assumption) | with_reducible refine Mod.call ?_ (by with_reducible assumption) (by rintro _ rfl; first | exact .inl rfl | (right; (first | omega | (simp; done) | (simp; omega))))))⟩
  case rest =>
    obtain ⟨rfl, rfl, h3, h4, h5, hmc⟩ := hcut
    have c_h3 := h3.cell; have f_h3 := h3.frozen; have l_h3 := h3.lt; have c_h4 := h4.cell; have f_h4 := h4.frozen; have l_h4 := h4.lt; have c_h5 := h5.cell; have f_h5 := h5.frozen; have l_h5 := h5.lt
    go_wp2_with fail
    go_region_held3 (fun w' => w'.cell? ⟨w3.heap.size, 0, none⟩ = some (.int .i64 x0) ∧ w'.cell? ⟨w3.heap.size, 1, none⟩ = some (.int .i64 x1) ∧ w'.cell? ⟨w3.heap.size, 2, none⟩ = some (.int .i64 x2) ∧ w'.cell? ⟨w3.heap.size, 3, none⟩ = some (.int .i64 x3) ∧ w'.cell? ⟨w3.heap.size, 4, none⟩ = some (.int .i64 x4) ∧ w'.cell? ⟨w2.heap.size, 0, none⟩ = some (.int .i64 K) ∧ w'.cell? ⟨w2.heap.size, 1, none⟩ = some (.int .i64 S) ∧ w'.cell? ⟨w2.heap.size + 1, 0, none⟩ = some (.int .i64 x0) ∧ w'.cell? ⟨w2.heap.size + 1, 1, none⟩ = some (.int .i64 x1) ∧ w'.cell? ⟨w2.heap.size + 1, 2, none⟩ = some (.int .i64 x2) ∧ w'.cell? ⟨w2.heap.size + 1, 3, none⟩ = some (.int .i64 x3) ∧ w'.cell? ⟨w2.heap.size + 1, 4, none⟩ = some (.int .i64 x4) ∧ Mod nowhere wc w') ((repeat' apply And.intro) <;> first | (simp [*]; done) | (go_simp; done) | exact (by repeat (first | with_reducible exact Mod.refl _ _ | with_reducible assumption | with_reducible refine Mod.alloc ?_ _ | with_reducible refine Mod.drew ?_ | with_reducible refine Mod.drewN ?_ _ | with_reducible refine Mod.setCell ?_ (by first | exact .inl rfl | (left; (try unfold from_); show _ ≤ _; first | omega | (simp; done) | (simp; omega)) | (right; first | omega | (simp; done) | (simp; omega))) _ | with_reducible refine Mod.call0 ?_ (by with_reducible assumption) | with_reducible refine Mod.call ?_ (by with_reducible assumption) (by rintro _ rfl; first | exact .inl rfl | (right; (first | omega | (simp; done) | (simp; omega))))))) (first | (go_at_call 9; (with_reducible refine (plain_calls _ _ _ _ _ _).mono ?_); rintro e w6 ⟨rfl, hbw6⟩; have hzw6 := hbw6.size; (try simp at hzw6); (try (have ltw60 : w3.heap.size < w6.heap.size := (by omega); have lcw60 := fun o => hbw6.cell (b := w3.heap.size) o (by first | omega | (simp; done) | (simp; omega)) (id); have lfw60 := fun o => hbw6.frozen (b := w3.heap.size) o (by first | omega | (simp; done) | (simp; omega)) (id))); (try (have ltw61 : w2.heap.size < w6.heap.size := (by omega); have lcw61 := fun o => hbw6.cell (b := w2.heap.size) o (by first | omega | (simp; done) | (simp; omega)) (id); have lfw61 := fun o => hbw6.frozen (b := w2.heap.size) o (by first | omega | (simp; done) | (simp; omega)) (id))); (try (have ltw62 : w2.heap.size + 1 < w6.heap.size := (by omega); have lcw62 := fun o => hbw6.cell (b := w2.heap.size + 1) o (by first | omega | (simp; done) | (simp; omega)) (id); have lfw62 := fun o => hbw6.frozen (b := w2.heap.size + 1) o (by first | omega | (simp; done) | (simp; omega)) (id))); skip))
    go_wp2
    go_ret
    exact ⟨rfl, (by repeat (first | with_reducible exact Mod.refl _ _ | with_reducible assumption | with_reducible refine Mod.alloc ?_ _ | with_reducible refine Mod.drew ?_ | with_reducible refine Mod.drewN ?_ _ | with_reducible refine Mod.setCell ?_ (by first | exact .inl rfl | (left; (try unfold from_); show _ ≤ _; first | omega | (simp; done) | (simp; omega)) | (right; first | omega | (simp; done) | (simp; omega))) _ | with_reducible refine Mod.call0 ?_ (by with_reducible assumption) | with_reducible refine Mod.call ?_ (by with_reducible assumption) (by rintro _ rfl; first | exact .inl rfl | (right; (first | omega | (simp; done) | (simp; omega))))))⟩
end Go.Proofs.Ytppjdglbbdlngaa
