/- What Karma's decision is: by a function of numbers. -/
import Derived.Test.YtdbheagfnodfmaaAlive5
namespace Go.Proofs.Ytdbheagfnodfmaa
open Go.RowKit

/-- Karma aborts a foe. -/
def karmaA (me foe tries : Int) : Prop := foe ≤ me + tries ∨ 8 < tries
instance (a b c : Int) : Decidable (karmaA a b c) := by unfold karmaA; infer_instance
def karmaK (me foe tries : Int) : Int := if karmaA me foe tries then 1 else 2
def karmaS (me foe tries wait : Int) : Int := if karmaA me foe tries then 0 else forF 1 wait
/-- A number that two of add up to one of Go's ints. -/
def Small (n : Int) : Prop := -2199023255552 ≤ n ∧ n ≤ 2199023255552

set_option maxHeartbeats 1000000 in
theorem karma_calls (s0 s1 s2 s3 s4 a0 a1 a2 a3 b0 b1 b2 b3 : Int) (a4 b4 : Bool) (draw wait : Int) (w : World) (h1 : I64 s1) (hm : Small a2) (ht : Small (metF ⟨s0, s1, s2, s3, s4⟩ ⟨b0, b1, b2, b3, b4⟩).tries) :
    Calls Try.prog 22 #[.agg #[], .agg #[.int .i64 s0, .int .i64 s1, .int .i64 s2, .int .i64 s3, .int .i64 s4], .agg #[.int .i64 a0, .int .i64 a1, .int .i64 a2, .int .i64 a3, .bool a4],
      .agg #[.int .i64 b0, .int .i64 b1, .int .i64 b2, .int .i64 b3, .bool b4], .int .i64 draw, .int .i64 wait] w
     fun en w' => en = .returned (.tuple #[.agg #[.int .i64 (karmaK a2 b2 (metF ⟨s0, s1, s2, s3, s4⟩ ⟨b0, b1, b2, b3, b4⟩).tries), .int .i64 (karmaS a2 b2 (metF ⟨s0, s1, s2, s3, s4⟩ ⟨b0, b1, b2, b3, b4⟩).tries wait)], (metF ⟨s0, s1, s2, s3, s4⟩ ⟨b0, b1, b2, b3, b4⟩).v]) ∧ Mod nowhere w w' := by
  obtain ⟨hm1, hm2⟩ := hm
  generalize hM : metF ⟨s0, s1, s2, s3, s4⟩ ⟨b0, b1, b2, b3, b4⟩ = m at *
  obtain ⟨m0, m1, m2, m3, m4⟩ := m
  obtain ⟨ht1, ht2⟩ := ht
  have HM := hide hM
  clear hM
  by_cases c1 : b2 ≤ a2 + m1
  · skip
    have e1 : karmaK a2 b2 m1 = 1 := if_pos (.inl c1)
    have e2 : karmaS a2 b2 m1 wait = 0 := if_pos (.inl c1)
    simp only [e1, e2]
    clear e1 e2
    go_enter Try.func22, Try.ntmps22
    go_wp2_with fail
    (with_reducible refine (met_calls _ _ _ _ _ _ _ _ _ _ _ h1).mono ?_)
    rintro e w1 ⟨rfl, hbw1⟩
    have hzw1 := hbw1.size
    (try simp at hzw1)
    have ltw10 : w.heap.size + 1 < w1.heap.size := (by omega)
    have lcw10 := fun o => hbw1.cell (b := w.heap.size + 1) o (by first | omega | (simp; done) | (simp; omega)) (id)
    have lfw10 := fun o => hbw1.frozen (b := w.heap.size + 1) o (by first | omega | (simp; done) | (simp; omega)) (id)
    have ltw11 : w.heap.size + 1 + 1 < w1.heap.size := (by omega)
    have lcw11 := fun o => hbw1.cell (b := w.heap.size + 1 + 1) o (by first | omega | (simp; done) | (simp; omega)) (id)
    have lfw11 := fun o => hbw1.frozen (b := w.heap.size + 1 + 1) o (by first | omega | (simp; done) | (simp; omega)) (id)
    have ltw12 : w.heap.size + 1 + 1 + 1 < w1.heap.size := (by omega)
    have lcw12 := fun o => hbw1.cell (b := w.heap.size + 1 + 1 + 1) o (by first | omega | (simp; done) | (simp; omega)) (id)
    have lfw12 := fun o => hbw1.frozen (b := w.heap.size + 1 + 1 + 1) o (by first | omega | (simp; done) | (simp; omega)) (id)
    have ltw13 : w.heap.size + 1 + 1 + 1 + 1 < w1.heap.size := (by omega)
    have lcw13 := fun o => hbw1.cell (b := w.heap.size + 1 + 1 + 1 + 1) o (by first | omega | (simp; done) | (simp; omega)) (id)
    have lfw13 := fun o => hbw1.frozen (b := w.heap.size + 1 + 1 + 1 + 1) o (by first | omega | (simp; done) | (simp; omega)) (id)
    have ltw14 : w.heap.size + 1 + 1 + 1 + 1 + 1 < w1.heap.size := (by omega)
    have lcw14 := fun o => hbw1.cell (b := w.heap.size + 1 + 1 + 1 + 1 + 1) o (by first | omega | (simp; done) | (simp; omega)) (id)
    have lfw14 := fun o => hbw1.frozen (b := w.heap.size + 1 + 1 + 1 + 1 + 1) o (by first | omega | (simp; done) | (simp; omega)) (id)
    rw [HM.out]
    go_wp2
    go_region
    all_goals go_wp2
    all_goals exact bodyPost_ret (v := .tuple #[.agg #[.int .i64 1, .int .i64 0], .agg #[.int .i64 m0, .int .i64 m1, .int .i64 m2, .int .i64 m3, .int .i64 m4]]) (by simp [results, Try.results22, go_sem, *]) rfl ⟨rfl, (by repeat (first | with_reducible exact Mod.refl _ _ | with_reducible assumption | with_reducible refine Mod.alloc ?_ _ | with_reducible refine Mod.drew ?_ | with_reducible refine Mod.drewN ?_ _ | with_reducible refine Mod.setCell ?_ (by first | exact .inl rfl | (left; (try unfold from_); show _ ≤ _; first | omega | (simp; done) | (simp; omega)) | (right; first | omega | (simp; done) | (simp; omega))) _ | with_reducible refine Mod.call0 ?_ (by with_reducible assumption) | with_reducible refine Mod.call ?_ (by with_reducible assumption) (by rintro _ rfl; first | exact .inl rfl | (right; (first | omega | (simp; done) | (simp; omega))))))⟩
  · by_cases c2 : 8 < m1
    · skip
      have e1 : karmaK a2 b2 m1 = 1 := if_pos (.inr c2)
      have e2 : karmaS a2 b2 m1 wait = 0 := if_pos (.inr c2)
      simp only [e1, e2]
      clear e1 e2
      go_enter Try.func22, Try.ntmps22
      go_wp2_with fail
      (with_reducible refine (met_calls _ _ _ _ _ _ _ _ _ _ _ h1).mono ?_)
      rintro e w1 ⟨rfl, hbw1⟩
      have hzw1 := hbw1.size
      (try simp at hzw1)
      have ltw10 : w.heap.size + 1 < w1.heap.size := (by omega)
      have lcw10 := fun o => hbw1.cell (b := w.heap.size + 1) o (by first | omega | (simp; done) | (simp; omega)) (id)
      have lfw10 := fun o => hbw1.frozen (b := w.heap.size + 1) o (by first | omega | (simp; done) | (simp; omega)) (id)
      have ltw11 : w.heap.size + 1 + 1 < w1.heap.size := (by omega)
      have lcw11 := fun o => hbw1.cell (b := w.heap.size + 1 + 1) o (by first | omega | (simp; done) | (simp; omega)) (id)
      have lfw11 := fun o => hbw1.frozen (b := w.heap.size + 1 + 1) o (by first | omega | (simp; done) | (simp; omega)) (id)
      have ltw12 : w.heap.size + 1 + 1 + 1 < w1.heap.size := (by omega)
      have lcw12 := fun o => hbw1.cell (b := w.heap.size + 1 + 1 + 1) o (by first | omega | (simp; done) | (simp; omega)) (id)
      have lfw12 := fun o => hbw1.frozen (b := w.heap.size + 1 + 1 + 1) o (by first | omega | (simp; done) | (simp; omega)) (id)
      have ltw13 : w.heap.size + 1 + 1 + 1 + 1 < w1.heap.size := (by omega)
      have lcw13 := fun o => hbw1.cell (b := w.heap.size + 1 + 1 + 1 + 1) o (by first | omega | (simp; done) | (simp; omega)) (id)
      have lfw13 := fun o => hbw1.frozen (b := w.heap.size + 1 + 1 + 1 + 1) o (by first | omega | (simp; done) | (simp; omega)) (id)
      have ltw14 : w.heap.size + 1 + 1 + 1 + 1 + 1 < w1.heap.size := (by omega)
      have lcw14 := fun o => hbw1.cell (b := w.heap.size + 1 + 1 + 1 + 1 + 1) o (by first | omega | (simp; done) | (simp; omega)) (id)
      have lfw14 := fun o => hbw1.frozen (b := w.heap.size + 1 + 1 + 1 + 1 + 1) o (by first | omega | (simp; done) | (simp; omega)) (id)
      rw [HM.out]
      go_wp2
      go_region
      all_goals go_wp2
      all_goals exact bodyPost_ret (v := .tuple #[.agg #[.int .i64 1, .int .i64 0], .agg #[.int .i64 m0, .int .i64 m1, .int .i64 m2, .int .i64 m3, .int .i64 m4]]) (by simp [results, Try.results22, go_sem, *]) rfl ⟨rfl, (by repeat (first | with_reducible exact Mod.refl _ _ | with_reducible assumption | with_reducible refine Mod.alloc ?_ _ | with_reducible refine Mod.drew ?_ | with_reducible refine Mod.drewN ?_ _ | with_reducible refine Mod.setCell ?_ (by first | exact .inl rfl | (left; (try unfold from_); show _ ≤ _; first | omega | (simp; done) | (simp; omega)) | (right; first | omega | (simp; done) | (simp; omega))) _ | with_reducible refine Mod.call0 ?_ (by with_reducible assumption) | with_reducible refine Mod.call ?_ (by with_reducible assumption) (by rintro _ rfl; first | exact .inl rfl | (right; (first | omega | (simp; done) | (simp; omega))))))⟩
    · have hn : ¬ karmaA a2 b2 m1 := fun h => h.elim c1 c2
      have e1 : karmaK a2 b2 m1 = 2 := if_neg hn
      have e2 : karmaS a2 b2 m1 wait = (forF 1 wait) := if_neg hn
      simp only [e1, e2]
      clear e1 e2 hn
      go_enter Try.func22, Try.ntmps22
      go_wp2_with fail
      (with_reducible refine (met_calls _ _ _ _ _ _ _ _ _ _ _ h1).mono ?_)
      rintro e w1 ⟨rfl, hbw1⟩
      have hzw1 := hbw1.size
      (try simp at hzw1)
      have ltw10 : w.heap.size + 1 < w1.heap.size := (by omega)
      have lcw10 := fun o => hbw1.cell (b := w.heap.size + 1) o (by first | omega | (simp; done) | (simp; omega)) (id)
      have lfw10 := fun o => hbw1.frozen (b := w.heap.size + 1) o (by first | omega | (simp; done) | (simp; omega)) (id)
      have ltw11 : w.heap.size + 1 + 1 < w1.heap.size := (by omega)
      have lcw11 := fun o => hbw1.cell (b := w.heap.size + 1 + 1) o (by first | omega | (simp; done) | (simp; omega)) (id)
      have lfw11 := fun o => hbw1.frozen (b := w.heap.size + 1 + 1) o (by first | omega | (simp; done) | (simp; omega)) (id)
      have ltw12 : w.heap.size + 1 + 1 + 1 < w1.heap.size := (by omega)
      have lcw12 := fun o => hbw1.cell (b := w.heap.size + 1 + 1 + 1) o (by first | omega | (simp; done) | (simp; omega)) (id)
      have lfw12 := fun o => hbw1.frozen (b := w.heap.size + 1 + 1 + 1) o (by first | omega | (simp; done) | (simp; omega)) (id)
      have ltw13 : w.heap.size + 1 + 1 + 1 + 1 < w1.heap.size := (by omega)
      have lcw13 := fun o => hbw1.cell (b := w.heap.size + 1 + 1 + 1 + 1) o (by first | omega | (simp; done) | (simp; omega)) (id)
      have lfw13 := fun o => hbw1.frozen (b := w.heap.size + 1 + 1 + 1 + 1) o (by first | omega | (simp; done) | (simp; omega)) (id)
      have ltw14 : w.heap.size + 1 + 1 + 1 + 1 + 1 < w1.heap.size := (by omega)
      have lcw14 := fun o => hbw1.cell (b := w.heap.size + 1 + 1 + 1 + 1 + 1) o (by first | omega | (simp; done) | (simp; omega)) (id)
      have lfw14 := fun o => hbw1.frozen (b := w.heap.size + 1 + 1 + 1 + 1 + 1) o (by first | omega | (simp; done) | (simp; omega)) (id)
      rw [HM.out]
      go_wp2_with fail
      go_region_held3 (fun w' => w'.cell? ⟨w.heap.size + 1, 0, none⟩ = some (.int .i64 m0) ∧ w'.cell? ⟨w.heap.size + 1, 1, none⟩ = some (.int .i64 m1) ∧ w'.cell? ⟨w.heap.size + 1, 2, none⟩ = some (.int .i64 m2) ∧ w'.cell? ⟨w.heap.size + 1, 3, none⟩ = some (.int .i64 m3) ∧ w'.cell? ⟨w.heap.size + 1, 4, none⟩ = some (.int .i64 m4) ∧ Mod (from_ w.heap.size) w1 w') ((repeat' apply And.intro) <;> first | (simp [*]; done) | (go_simp; done) | exact (by repeat (first | with_reducible exact Mod.refl _ _ | with_reducible assumption | with_reducible refine Mod.alloc ?_ _ | with_reducible refine Mod.drew ?_ | with_reducible refine Mod.drewN ?_ _ | with_reducible refine Mod.setCell ?_ (by first | exact .inl rfl | (left; (try unfold from_); show _ ≤ _; first | omega | (simp; done) | (simp; omega)) | (right; first | omega | (simp; done) | (simp; omega))) _ | with_reducible refine Mod.call0 ?_ (by with_reducible assumption) | with_reducible refine Mod.call ?_ (by with_reducible assumption) (by rintro _ rfl; first | exact .inl rfl | (right; (first | omega | (simp; done) | (simp; omega))))))) (first | (go_at_call 25; (with_reducible refine (for_calls _ _ _).mono ?_); rintro e w2 ⟨rfl, hbw2⟩; have hzw2 := hbw2.size; (try simp at hzw2); have ltw20 : w.heap.size + 1 < w2.heap.size := (by omega); have lcw20 := fun o => hbw2.cell (b := w.heap.size + 1) o (by first | omega | (simp; done) | (simp; omega)) (id); have lfw20 := fun o => hbw2.frozen (b := w.heap.size + 1) o (by first | omega | (simp; done) | (simp; omega)) (id); have ltw21 : w.heap.size + 1 + 1 < w2.heap.size := (by omega); have lcw21 := fun o => hbw2.cell (b := w.heap.size + 1 + 1) o (by first | omega | (simp; done) | (simp; omega)) (id); have lfw21 := fun o => hbw2.frozen (b := w.heap.size + 1 + 1) o (by first | omega | (simp; done) | (simp; omega)) (id); have ltw22 : w.heap.size + 1 + 1 + 1 < w2.heap.size := (by omega); have lcw22 := fun o => hbw2.cell (b := w.heap.size + 1 + 1 + 1) o (by first | omega | (simp; done) | (simp; omega)) (id); have lfw22 := fun o => hbw2.frozen (b := w.heap.size + 1 + 1 + 1) o (by first | omega | (simp; done) | (simp; omega)) (id); have ltw23 : w.heap.size + 1 + 1 + 1 + 1 < w2.heap.size := (by omega); have lcw23 := fun o => hbw2.cell (b := w.heap.size + 1 + 1 + 1 + 1) o (by first | omega | (simp; done) | (simp; omega)) (id); have lfw23 := fun o => hbw2.frozen (b := w.heap.size + 1 + 1 + 1 + 1) o (by first | omega | (simp; done) | (simp; omega)) (id); have ltw24 : w.heap.size + 1 + 1 + 1 + 1 + 1 < w2.heap.size := (by omega); have lcw24 := fun o => hbw2.cell (b := w.heap.size + 1 + 1 + 1 + 1 + 1) o (by first | omega | (simp; done) | (simp; omega)) (id); have lfw24 := fun o => hbw2.frozen (b := w.heap.size + 1 + 1 + 1 + 1 + 1) o (by first | omega | (simp; done) | (simp; omega)) (id); skip))
      all_goals go_wp2
      all_goals exact bodyPost_ret (v := .tuple #[.agg #[.int .i64 2, .int .i64 (forF 1 wait)], .agg #[.int .i64 m0, .int .i64 m1, .int .i64 m2, .int .i64 m3, .int .i64 m4]]) (by simp [results, Try.results22, go_sem, *]) rfl ⟨rfl, (by repeat (first | with_reducible exact Mod.refl _ _ | with_reducible assumption | with_reducible refine Mod.alloc ?_ _ | with_reducible refine Mod.drew ?_ | with_reducible refine Mod.drewN ?_ _ | with_reducible refine Mod.setCell ?_ (by first | exact .inl rfl | (left; (try unfold from_); show _ ≤ _; first | omega | (simp; done) | (simp; omega)) | (right; first | omega | (simp; done) | (simp; omega))) _ | with_reducible refine Mod.call0 ?_ (by with_reducible assumption) | with_reducible refine Mod.call ?_ (by with_reducible assumption) (by rintro _ rfl; first | exact .inl rfl | (right; (first | omega | (simp; done) | (simp; omega))))))⟩
end Go.Proofs.Ytdbheagfnodfmaa
