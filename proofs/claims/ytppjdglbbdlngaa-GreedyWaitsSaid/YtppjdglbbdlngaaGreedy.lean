/- What Greedy's decision is: by a function of numbers; the program's. -/
import Derived.Test.YtppjdglbbdlngaaChoice2
namespace Go.Proofs.Ytppjdglbbdlngaa
open Go.RowKit

/-- Greedy's kind, its steps, and what is remembered then. -/
def greedyD (me foe : Int) (waiting : Bool) (m : St) (pulse wait : Int) : Int × Int × St :=
  if me < foe ∨ waiting = true then (1, 0, m) else if wait < (lookF m pulse).looks then (1, 0, lookF m pulse) else (2, forF 1 wait, lookF m pulse)

set_option maxHeartbeats 4000000 in
theorem greedy_calls (s0 s1 s2 s3 s4 a0 a1 a2 a3 b0 b1 b2 b3 : Int) (a4 b4 : Bool) (draw wait : Int) (w : World) (h1 : I64 s1) (h4 : I64 s4) (m0 m1 m2 m3 m4 : Int) (hM : metF ⟨s0, s1, s2, s3, s4⟩ ⟨b0, b1, b2, b3, b4⟩ = ⟨m0, m1, m2, m3, m4⟩)
    (k st x0 x1 x2 x3 x4 : Int) (hD : greedyD a1 b1 b4 ⟨m0, m1, m2, m3, m4⟩ b3 wait = (k, st, ⟨x0, x1, x2, x3, x4⟩)) :
    Calls Try.prog 8 #[.agg #[], .agg #[.int .i64 s0, .int .i64 s1, .int .i64 s2, .int .i64 s3, .int .i64 s4], .agg #[.int .i64 a0, .int .i64 a1, .int .i64 a2, .int .i64 a3, .bool a4],
      .agg #[.int .i64 b0, .int .i64 b1, .int .i64 b2, .int .i64 b3, .bool b4], .int .i64 draw, .int .i64 wait] w
     fun en w' => en = .returned (.tuple #[.agg #[.int .i64 k, .int .i64 st], .agg #[.int .i64 x0, .int .i64 x1, .int .i64 x2, .int .i64 x3, .int .i64 x4]]) ∧ Mod nowhere w w' := by
  have hm4 : I64 m4 := by have := metF_looks (s := ⟨s0, s1, s2, s3, s4⟩) (f := ⟨b0, b1, b2, b3, b4⟩) h4; rw [hM] at this; exact this
  have HM := hide hM
  clear hM
  unfold greedyD at hD
  by_cases c1 : a1 < b1
  · rw [if_pos (.inl c1)] at hD
    simp only [Prod.mk.injEq, St.mk.injEq] at hD
    obtain ⟨rfl, rfl, rfl, rfl, rfl, rfl, rfl⟩ := hD
    go_enter Try.func8, Try.ntmps8
    go_wp2_with fail
    (with_reducible refine (met_calls _ _ _ _ _ _ _ _ _ _ _ h1).mono ?_)
    rintro e w1 ⟨rfl, hbw1⟩
    have hzw1 := hbw1.size
    (try simp at hzw1)
    (try (have ltw10 : w.heap.size + 1 < w1.heap.size := (by omega); have lcw10 := fun o => hbw1.cell (b := w.heap.size + 1) o (by first | omega | (simp; done) | (simp; omega)) (id); have lfw10 := fun o => hbw1.frozen (b := w.heap.size + 1) o (by first | omega | (simp; done) | (simp; omega)) (id)))
    (try (have ltw11 : w.heap.size + 1 + 1 < w1.heap.size := (by omega); have lcw11 := fun o => hbw1.cell (b := w.heap.size + 1 + 1) o (by first | omega | (simp; done) | (simp; omega)) (id); have lfw11 := fun o => hbw1.frozen (b := w.heap.size + 1 + 1) o (by first | omega | (simp; done) | (simp; omega)) (id)))
    (try (have ltw12 : w.heap.size + 1 + 1 + 1 < w1.heap.size := (by omega); have lcw12 := fun o => hbw1.cell (b := w.heap.size + 1 + 1 + 1) o (by first | omega | (simp; done) | (simp; omega)) (id); have lfw12 := fun o => hbw1.frozen (b := w.heap.size + 1 + 1 + 1) o (by first | omega | (simp; done) | (simp; omega)) (id)))
    (try (have ltw13 : w.heap.size + 1 + 1 + 1 + 1 < w1.heap.size := (by omega); have lcw13 := fun o => hbw1.cell (b := w.heap.size + 1 + 1 + 1 + 1) o (by first | omega | (simp; done) | (simp; omega)) (id); have lfw13 := fun o => hbw1.frozen (b := w.heap.size + 1 + 1 + 1 + 1) o (by first | omega | (simp; done) | (simp; omega)) (id)))
    (try (have ltw14 : w.heap.size + 1 + 1 + 1 + 1 + 1 < w1.heap.size := (by omega); have lcw14 := fun o => hbw1.cell (b := w.heap.size + 1 + 1 + 1 + 1 + 1) o (by first | omega | (simp; done) | (simp; omega)) (id); have lfw14 := fun o => hbw1.frozen (b := w.heap.size + 1 + 1 + 1 + 1 + 1) o (by first | omega | (simp; done) | (simp; omega)) (id)))
    rw [HM.out]
    go_wp2
    go_region
    all_goals go_wp2
    all_goals exact bodyPost_ret (v := .tuple #[.agg #[.int .i64 1, .int .i64 0], .agg #[.int .i64 m0, .int .i64 m1, .int .i64 m2, .int .i64 m3, .int .i64 m4]]) (by simp [results, Try.results8, go_sem, *]) rfl ⟨rfl, (by repeat (first | with_reducible exact Mod.refl _ _ | with_reducible assumption | with_reducible refine Mod.alloc ?_ _ | with_reducible refine Mod.drew ?_ | with_reducible refine Mod.drewN ?_ _ | with_reducible refine Mod.setCell ?_ (by first | exact .inl rfl | (left; (try unfold from_); show _ ≤ _; first | omega | (simp; done) | (simp; omega)) | (right; first | omega | (simp; done) | (simp; omega))) _ | with_reducible refine Mod.call0 ?_ (by with_reducible assumption) | with_reducible refine Mod.call ?_ (by with_reducible assumption) (by rintro _ rfl; first | exact .inl rfl | (right; (first | omega | (simp; done) | (simp; omega))))))⟩
  by_cases c2 : b4 = true
  · rw [if_pos (.inr c2)] at hD
    subst c2
    simp only [Prod.mk.injEq, St.mk.injEq] at hD
    obtain ⟨rfl, rfl, rfl, rfl, rfl, rfl, rfl⟩ := hD
    go_enter Try.func8, Try.ntmps8
    go_wp2_with fail
    (with_reducible refine (met_calls _ _ _ _ _ _ _ _ _ _ _ h1).mono ?_)
    rintro e w1 ⟨rfl, hbw1⟩
    have hzw1 := hbw1.size
    (try simp at hzw1)
    (try (have ltw10 : w.heap.size + 1 < w1.heap.size := (by omega); have lcw10 := fun o => hbw1.cell (b := w.heap.size + 1) o (by first | omega | (simp; done) | (simp; omega)) (id); have lfw10 := fun o => hbw1.frozen (b := w.heap.size + 1) o (by first | omega | (simp; done) | (simp; omega)) (id)))
    (try (have ltw11 : w.heap.size + 1 + 1 < w1.heap.size := (by omega); have lcw11 := fun o => hbw1.cell (b := w.heap.size + 1 + 1) o (by first | omega | (simp; done) | (simp; omega)) (id); have lfw11 := fun o => hbw1.frozen (b := w.heap.size + 1 + 1) o (by first | omega | (simp; done) | (simp; omega)) (id)))
    (try (have ltw12 : w.heap.size + 1 + 1 + 1 < w1.heap.size := (by omega); have lcw12 := fun o => hbw1.cell (b := w.heap.size + 1 + 1 + 1) o (by first | omega | (simp; done) | (simp; omega)) (id); have lfw12 := fun o => hbw1.frozen (b := w.heap.size + 1 + 1 + 1) o (by first | omega | (simp; done) | (simp; omega)) (id)))
    (try (have ltw13 : w.heap.size + 1 + 1 + 1 + 1 < w1.heap.size := (by omega); have lcw13 := fun o => hbw1.cell (b := w.heap.size + 1 + 1 + 1 + 1) o (by first | omega | (simp; done) | (simp; omega)) (id); have lfw13 := fun o => hbw1.frozen (b := w.heap.size + 1 + 1 + 1 + 1) o (by first | omega | (simp; done) | (simp; omega)) (id)))
    (try (have ltw14 : w.heap.size + 1 + 1 + 1 + 1 + 1 < w1.heap.size := (by omega); have lcw14 := fun o => hbw1.cell (b := w.heap.size + 1 + 1 + 1 + 1 + 1) o (by first | omega | (simp; done) | (simp; omega)) (id); have lfw14 := fun o => hbw1.frozen (b := w.heap.size + 1 + 1 + 1 + 1 + 1) o (by first | omega | (simp; done) | (simp; omega)) (id)))
    rw [HM.out]
    go_wp2
    go_region
    all_goals go_wp2
    all_goals exact bodyPost_ret (v := .tuple #[.agg #[.int .i64 1, .int .i64 0], .agg #[.int .i64 m0, .int .i64 m1, .int .i64 m2, .int .i64 m3, .int .i64 m4]]) (by simp [results, Try.results8, go_sem, *]) rfl ⟨rfl, (by repeat (first | with_reducible exact Mod.refl _ _ | with_reducible assumption | with_reducible refine Mod.alloc ?_ _ | with_reducible refine Mod.drew ?_ | with_reducible refine Mod.drewN ?_ _ | with_reducible refine Mod.setCell ?_ (by first | exact .inl rfl | (left; (try unfold from_); show _ ≤ _; first | omega | (simp; done) | (simp; omega)) | (right; first | omega | (simp; done) | (simp; omega))) _ | with_reducible refine Mod.call0 ?_ (by with_reducible assumption) | with_reducible refine Mod.call ?_ (by with_reducible assumption) (by rintro _ rfl; first | exact .inl rfl | (right; (first | omega | (simp; done) | (simp; omega))))))⟩
  rw [if_neg (fun h => h.elim c1 c2)] at hD
  have hb4 : b4 = false := by simpa using c2
  subst hb4
  generalize hL : lookF ⟨m0, m1, m2, m3, m4⟩ b3 = z at hD
  obtain ⟨z0, z1, z2, z3, z4⟩ := z
  have HL := hide hL
  clear hL c2
  by_cases c3 : wait < z4
  · rw [if_pos c3] at hD
    simp only [Prod.mk.injEq, St.mk.injEq] at hD
    obtain ⟨rfl, rfl, rfl, rfl, rfl, rfl, rfl⟩ := hD
    go_enter Try.func8, Try.ntmps8
    go_wp2_with fail
    (with_reducible refine (met_calls _ _ _ _ _ _ _ _ _ _ _ h1).mono ?_)
    rintro e w1 ⟨rfl, hbw1⟩
    have hzw1 := hbw1.size
    (try simp at hzw1)
    (try (have ltw10 : w.heap.size + 1 < w1.heap.size := (by omega); have lcw10 := fun o => hbw1.cell (b := w.heap.size + 1) o (by first | omega | (simp; done) | (simp; omega)) (id); have lfw10 := fun o => hbw1.frozen (b := w.heap.size + 1) o (by first | omega | (simp; done) | (simp; omega)) (id)))
    (try (have ltw11 : w.heap.size + 1 + 1 < w1.heap.size := (by omega); have lcw11 := fun o => hbw1.cell (b := w.heap.size + 1 + 1) o (by first | omega | (simp; done) | (simp; omega)) (id); have lfw11 := fun o => hbw1.frozen (b := w.heap.size + 1 + 1) o (by first | omega | (simp; done) | (simp; omega)) (id)))
    (try (have ltw12 : w.heap.size + 1 + 1 + 1 < w1.heap.size := (by omega); have lcw12 := fun o => hbw1.cell (b := w.heap.size + 1 + 1 + 1) o (by first | omega | (simp; done) | (simp; omega)) (id); have lfw12 := fun o => hbw1.frozen (b := w.heap.size + 1 + 1 + 1) o (by first | omega | (simp; done) | (simp; omega)) (id)))
    (try (have ltw13 : w.heap.size + 1 + 1 + 1 + 1 < w1.heap.size := (by omega); have lcw13 := fun o => hbw1.cell (b := w.heap.size + 1 + 1 + 1 + 1) o (by first | omega | (simp; done) | (simp; omega)) (id); have lfw13 := fun o => hbw1.frozen (b := w.heap.size + 1 + 1 + 1 + 1) o (by first | omega | (simp; done) | (simp; omega)) (id)))
    (try (have ltw14 : w.heap.size + 1 + 1 + 1 + 1 + 1 < w1.heap.size := (by omega); have lcw14 := fun o => hbw1.cell (b := w.heap.size + 1 + 1 + 1 + 1 + 1) o (by first | omega | (simp; done) | (simp; omega)) (id); have lfw14 := fun o => hbw1.frozen (b := w.heap.size + 1 + 1 + 1 + 1 + 1) o (by first | omega | (simp; done) | (simp; omega)) (id)))
    rw [HM.out]
    go_wp2_with fail
    (with_reducible refine (look_calls _ _ _ _ _ _ _ _ hm4).mono ?_)
    rintro e w2 ⟨rfl, hbw2⟩
    have hzw2 := hbw2.size
    (try simp at hzw2)
    skip
    rw [HL.out]
    have k1 : Blk w2 (w.heap.size + 1) 23 #[.int .i64 m0, .int .i64 m1, .int .i64 m2, .int .i64 m3, .int .i64 m4] := (by repeat (first | with_reducible assumption | with_reducible apply Blk.new | with_reducible exact Blk.newAt (by first | rfl | (simp; done) | (simp; omega)) | with_reducible apply Blk.alloc | with_reducible apply Blk.drew | with_reducible apply Blk.drewN | with_reducible apply Blk.keep0 (hm := by with_reducible assumption) | with_reducible apply Blk.keep (hm := by with_reducible assumption) (hg := by omega) | with_reducible apply Blk.far (hp := by first | omega | (simp; done) | (simp; omega)) | with_reducible apply Blk.set1 | rfl))
    have k4 : Blk w2 (w.heap.size + 1 + 1 + 1 + 1) 28 #[.int .i64 0, .int .i64 0] := (by repeat (first | with_reducible assumption | with_reducible apply Blk.new | with_reducible exact Blk.newAt (by first | rfl | (simp; done) | (simp; omega)) | with_reducible apply Blk.alloc | with_reducible apply Blk.drew | with_reducible apply Blk.drewN | with_reducible apply Blk.keep0 (hm := by with_reducible assumption) | with_reducible apply Blk.keep (hm := by with_reducible assumption) (hg := by omega) | with_reducible apply Blk.far (hp := by first | omega | (simp; done) | (simp; omega)) | with_reducible apply Blk.set1 | rfl))
    have k5 : Blk w2 (w.heap.size + 1 + 1 + 1 + 1 + 1) 23 #[.int .i64 0, .int .i64 0, .int .i64 0, .int .i64 0, .int .i64 0] := (by repeat (first | with_reducible assumption | with_reducible apply Blk.new | with_reducible exact Blk.newAt (by first | rfl | (simp; done) | (simp; omega)) | with_reducible apply Blk.alloc | with_reducible apply Blk.drew | with_reducible apply Blk.drewN | with_reducible apply Blk.keep0 (hm := by with_reducible assumption) | with_reducible apply Blk.keep (hm := by with_reducible assumption) (hg := by omega) | with_reducible apply Blk.far (hp := by first | omega | (simp; done) | (simp; omega)) | with_reducible apply Blk.set1 | rfl))
    have c_k1 := k1.cell; have f_k1 := k1.frozen; have l_k1 := k1.lt; have c_k4 := k4.cell; have f_k4 := k4.frozen; have l_k4 := k4.lt; have c_k5 := k5.cell; have f_k5 := k5.frozen; have l_k5 := k5.lt
    go_wp2
    go_region
    all_goals go_wp2
    all_goals exact bodyPost_ret (v := .tuple #[.agg #[.int .i64 1, .int .i64 0], .agg #[.int .i64 z0, .int .i64 z1, .int .i64 z2, .int .i64 z3, .int .i64 z4]]) (by simp [results, Try.results8, go_sem, *]) rfl ⟨rfl, (by repeat (first | with_reducible exact Mod.refl _ _ | with_reducible assumption | with_reducible refine Mod.alloc ?_ _ | with_reducible refine Mod.drew ?_ | with_reducible refine Mod.drewN ?_ _ | with_reducible refine Mod.setCell ?_ (by first | exact .inl rfl | (left; (try unfold from_); show _ ≤ _; first | omega | (simp; done) | (simp; omega)) | (right; first | omega | (simp; done) | (simp; omega))) _ | with_reducible refine Mod.call0 ?_ (by with_reducible assumption) | with_reducible refine Mod.call ?_ (by with_reducible assumption) (by rintro _ rfl; first | exact .inl rfl | (right; (first | omega | (simp; done) | (simp; omega))))))⟩
  · rw [if_neg c3] at hD
    simp only [Prod.mk.injEq, St.mk.injEq] at hD
    obtain ⟨rfl, rfl, rfl, rfl, rfl, rfl, rfl⟩ := hD
    go_enter Try.func8, Try.ntmps8
    go_wp2_with fail
    (with_reducible refine (met_calls _ _ _ _ _ _ _ _ _ _ _ h1).mono ?_)
    rintro e w1 ⟨rfl, hbw1⟩
    have hzw1 := hbw1.size
    (try simp at hzw1)
    (try (have ltw10 : w.heap.size + 1 < w1.heap.size := (by omega); have lcw10 := fun o => hbw1.cell (b := w.heap.size + 1) o (by first | omega | (simp; done) | (simp; omega)) (id); have lfw10 := fun o => hbw1.frozen (b := w.heap.size + 1) o (by first | omega | (simp; done) | (simp; omega)) (id)))
    (try (have ltw11 : w.heap.size + 1 + 1 < w1.heap.size := (by omega); have lcw11 := fun o => hbw1.cell (b := w.heap.size + 1 + 1) o (by first | omega | (simp; done) | (simp; omega)) (id); have lfw11 := fun o => hbw1.frozen (b := w.heap.size + 1 + 1) o (by first | omega | (simp; done) | (simp; omega)) (id)))
    (try (have ltw12 : w.heap.size + 1 + 1 + 1 < w1.heap.size := (by omega); have lcw12 := fun o => hbw1.cell (b := w.heap.size + 1 + 1 + 1) o (by first | omega | (simp; done) | (simp; omega)) (id); have lfw12 := fun o => hbw1.frozen (b := w.heap.size + 1 + 1 + 1) o (by first | omega | (simp; done) | (simp; omega)) (id)))
    (try (have ltw13 : w.heap.size + 1 + 1 + 1 + 1 < w1.heap.size := (by omega); have lcw13 := fun o => hbw1.cell (b := w.heap.size + 1 + 1 + 1 + 1) o (by first | omega | (simp; done) | (simp; omega)) (id); have lfw13 := fun o => hbw1.frozen (b := w.heap.size + 1 + 1 + 1 + 1) o (by first | omega | (simp; done) | (simp; omega)) (id)))
    (try (have ltw14 : w.heap.size + 1 + 1 + 1 + 1 + 1 < w1.heap.size := (by omega); have lcw14 := fun o => hbw1.cell (b := w.heap.size + 1 + 1 + 1 + 1 + 1) o (by first | omega | (simp; done) | (simp; omega)) (id); have lfw14 := fun o => hbw1.frozen (b := w.heap.size + 1 + 1 + 1 + 1 + 1) o (by first | omega | (simp; done) | (simp; omega)) (id)))
    rw [HM.out]
    go_wp2_with fail
    (with_reducible refine (look_calls _ _ _ _ _ _ _ _ hm4).mono ?_)
    rintro e w2 ⟨rfl, hbw2⟩
    have hzw2 := hbw2.size
    (try simp at hzw2)
    skip
    rw [HL.out]
    have k1 : Blk w2 (w.heap.size + 1) 23 #[.int .i64 m0, .int .i64 m1, .int .i64 m2, .int .i64 m3, .int .i64 m4] := (by repeat (first | with_reducible assumption | with_reducible apply Blk.new | with_reducible exact Blk.newAt (by first | rfl | (simp; done) | (simp; omega)) | with_reducible apply Blk.alloc | with_reducible apply Blk.drew | with_reducible apply Blk.drewN | with_reducible apply Blk.keep0 (hm := by with_reducible assumption) | with_reducible apply Blk.keep (hm := by with_reducible assumption) (hg := by omega) | with_reducible apply Blk.far (hp := by first | omega | (simp; done) | (simp; omega)) | with_reducible apply Blk.set1 | rfl))
    have k4 : Blk w2 (w.heap.size + 1 + 1 + 1 + 1) 28 #[.int .i64 0, .int .i64 0] := (by repeat (first | with_reducible assumption | with_reducible apply Blk.new | with_reducible exact Blk.newAt (by first | rfl | (simp; done) | (simp; omega)) | with_reducible apply Blk.alloc | with_reducible apply Blk.drew | with_reducible apply Blk.drewN | with_reducible apply Blk.keep0 (hm := by with_reducible assumption) | with_reducible apply Blk.keep (hm := by with_reducible assumption) (hg := by omega) | with_reducible apply Blk.far (hp := by first | omega | (simp; done) | (simp; omega)) | with_reducible apply Blk.set1 | rfl))
    have k5 : Blk w2 (w.heap.size + 1 + 1 + 1 + 1 + 1) 23 #[.int .i64 0, .int .i64 0, .int .i64 0, .int .i64 0, .int .i64 0] := (by repeat (first | with_reducible assumption | with_reducible apply Blk.new | with_reducible exact Blk.newAt (by first | rfl | (simp; done) | (simp; omega)) | with_reducible apply Blk.alloc | with_reducible apply Blk.drew | with_reducible apply Blk.drewN | with_reducible apply Blk.keep0 (hm := by with_reducible assumption) | with_reducible apply Blk.keep (hm := by with_reducible assumption) (hg := by omega) | with_reducible apply Blk.far (hp := by first | omega | (simp; done) | (simp; omega)) | with_reducible apply Blk.set1 | rfl))
    have c_k1 := k1.cell; have f_k1 := k1.frozen; have l_k1 := k1.lt; have c_k4 := k4.cell; have f_k4 := k4.frozen; have l_k4 := k4.lt; have c_k5 := k5.cell; have f_k5 := k5.frozen; have l_k5 := k5.lt
    go_wp2_with fail
    go_region_held3 (fun w' => w'.cell? ⟨w.heap.size + 1, 0, none⟩ = some (.int .i64 z0) ∧ w'.cell? ⟨w.heap.size + 1, 1, none⟩ = some (.int .i64 z1) ∧ w'.cell? ⟨w.heap.size + 1, 2, none⟩ = some (.int .i64 z2) ∧ w'.cell? ⟨w.heap.size + 1, 3, none⟩ = some (.int .i64 z3) ∧ w'.cell? ⟨w.heap.size + 1, 4, none⟩ = some (.int .i64 z4) ∧ Mod (from_ w.heap.size) w2 w') ((repeat' apply And.intro) <;> first | (simp [*]; done) | (go_simp; done) | exact (by repeat (first | with_reducible exact Mod.refl _ _ | with_reducible assumption | with_reducible refine Mod.alloc ?_ _ | with_reducible refine Mod.drew ?_ | with_reducible refine Mod.drewN ?_ _ | with_reducible refine Mod.setCell ?_ (by first | exact .inl rfl | (left; (try unfold from_); show _ ≤ _; first | omega | (simp; done) | (simp; omega)) | (right; first | omega | (simp; done) | (simp; omega))) _ | with_reducible refine Mod.call0 ?_ (by with_reducible assumption) | with_reducible refine Mod.call ?_ (by with_reducible assumption) (by rintro _ rfl; first | exact .inl rfl | (right; (first | omega | (simp; done) | (simp; omega))))))) (first | (go_at_call 17; (with_reducible refine (for_calls _ _ _).mono ?_); rintro e w3 ⟨rfl, hbw3⟩; have hzw3 := hbw3.size; (try simp at hzw3); (try (have ltw30 : w.heap.size + 1 < w3.heap.size := (by omega); have lcw30 := fun o => hbw3.cell (b := w.heap.size + 1) o (by first | omega | (simp; done) | (simp; omega)) (id); have lfw30 := fun o => hbw3.frozen (b := w.heap.size + 1) o (by first | omega | (simp; done) | (simp; omega)) (id))); (try (have ltw31 : w.heap.size + 1 + 1 < w3.heap.size := (by omega); have lcw31 := fun o => hbw3.cell (b := w.heap.size + 1 + 1) o (by first | omega | (simp; done) | (simp; omega)) (id); have lfw31 := fun o => hbw3.frozen (b := w.heap.size + 1 + 1) o (by first | omega | (simp; done) | (simp; omega)) (id))); (try (have ltw32 : w.heap.size + 1 + 1 + 1 < w3.heap.size := (by omega); have lcw32 := fun o => hbw3.cell (b := w.heap.size + 1 + 1 + 1) o (by first | omega | (simp; done) | (simp; omega)) (id); have lfw32 := fun o => hbw3.frozen (b := w.heap.size + 1 + 1 + 1) o (by first | omega | (simp; done) | (simp; omega)) (id))); (try (have ltw33 : w.heap.size + 1 + 1 + 1 + 1 < w3.heap.size := (by omega); have lcw33 := fun o => hbw3.cell (b := w.heap.size + 1 + 1 + 1 + 1) o (by first | omega | (simp; done) | (simp; omega)) (id); have lfw33 := fun o => hbw3.frozen (b := w.heap.size + 1 + 1 + 1 + 1) o (by first | omega | (simp; done) | (simp; omega)) (id))); (try (have ltw34 : w.heap.size + 1 + 1 + 1 + 1 + 1 < w3.heap.size := (by omega); have lcw34 := fun o => hbw3.cell (b := w.heap.size + 1 + 1 + 1 + 1 + 1) o (by first | omega | (simp; done) | (simp; omega)) (id); have lfw34 := fun o => hbw3.frozen (b := w.heap.size + 1 + 1 + 1 + 1 + 1) o (by first | omega | (simp; done) | (simp; omega)) (id))); skip))
    all_goals go_wp2
    all_goals exact bodyPost_ret (v := .tuple #[.agg #[.int .i64 2, .int .i64 (forF 1 wait)], .agg #[.int .i64 z0, .int .i64 z1, .int .i64 z2, .int .i64 z3, .int .i64 z4]]) (by simp [results, Try.results8, go_sem, *]) rfl ⟨rfl, (by repeat (first | with_reducible exact Mod.refl _ _ | with_reducible assumption | with_reducible refine Mod.alloc ?_ _ | with_reducible refine Mod.drew ?_ | with_reducible refine Mod.drewN ?_ _ | with_reducible refine Mod.setCell ?_ (by first | exact .inl rfl | (left; (try unfold from_); show _ ≤ _; first | omega | (simp; done) | (simp; omega)) | (right; first | omega | (simp; done) | (simp; omega))) _ | with_reducible refine Mod.call0 ?_ (by with_reducible assumption) | with_reducible refine Mod.call ?_ (by with_reducible assumption) (by rintro _ rfl; first | exact .inl rfl | (right; (first | omega | (simp; done) | (simp; omega))))))⟩
end Go.Proofs.Ytppjdglbbdlngaa
