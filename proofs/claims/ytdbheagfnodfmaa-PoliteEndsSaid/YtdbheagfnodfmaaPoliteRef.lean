/- The document's decision of Polite, and the law that it is the program's. -/
import Derived.Test.YtdbheagfnodfmaaLawsPolite
import Derived.Handy
namespace Go.Proofs.Ytdbheagfnodfmaa
open Go.RowKit

set_option maxHeartbeats 1000000 in
theorem side_calls (a b c d : Int) (e : Bool) (w : World) :
    Calls Try.prog 24 #[.agg #[.int .i64 a, .int .i64 b, .int .i64 c, .int .i64 d, .bool e]] w
     fun en w' => en = .returned (.agg #[.int .i64 a, .int .i64 b, .int .i64 c, .int .i64 d, .bool e]) ∧ Mod nowhere w w' := by
  go_enter Try.func24, Try.ntmps24
  go_wp2
  exact bodyPost_ret (v := .agg #[.int .i64 a, .int .i64 b, .int .i64 c, .int .i64 d, .bool e]) (by simp [results, Try.results24, go_sem]) rfl ⟨rfl, (by repeat (first | with_reducible exact Mod.refl _ _ | with_reducible assumption | with_reducible refine Mod.alloc ?_ _ | with_reducible refine Mod.drew ?_ | with_reducible refine Mod.drewN ?_ _ | with_reducible refine Mod.setCell ?_ (by first | exact .inl rfl | (left; (try unfold from_); show _ ≤ _; first | omega | (simp; done) | (simp; omega)) | (right; first | omega | (simp; done) | (simp; omega))) _ | with_reducible refine Mod.call0 ?_ (by with_reducible assumption) | with_reducible refine Mod.call ?_ (by with_reducible assumption) (by rintro _ rfl; first | exact .inl rfl | (right; (first | omega | (simp; done) | (simp; omega))))))⟩

set_option maxHeartbeats 4000000 in
theorem refpolite_calls (s0 s1 s2 s3 s4 a0 a1 a2 a3 b0 b1 b2 b3 : Int) (a4 b4 : Bool) (draw wait : Int) (g : Nat) (w : World) (hg : Blk w g 27 #[.int .i64 s0, .int .i64 s1, .int .i64 s2, .int .i64 s3, .int .i64 s4])
    (h1 : I64 s1) (m0 m1 m2 m3 m4 : Int) (hM : metF ⟨s0, s1, s2, s3, s4⟩ ⟨b0, b1, b2, b3, b4⟩ = ⟨m0, m1, m2, m3, m4⟩) :
    Calls Try.prog 30 #[.pointer (some ⟨g, 0, none⟩), .agg #[.int .i64 a0, .int .i64 a1, .int .i64 a2, .int .i64 a3, .bool a4],
      .agg #[.int .i64 b0, .int .i64 b1, .int .i64 b2, .int .i64 b3, .bool b4], .int .i64 draw, .int .i64 wait] w
     fun en w' => en = .returned (.tuple #[.int .i64 (politeK m1), .int .i64 (politeS draw m1 wait)]) ∧ Blk w' g 27 #[.int .i64 m0, .int .i64 m1, .int .i64 m2, .int .i64 m3, .int .i64 m4] ∧ Mod (· = g) w w' := by
  have HM := hide hM
  have l_g := hg.lt
  clear hM
  by_cases c1 : 4 < m1
  · have e1 : politeK m1 = 1 := if_pos c1
    have e2 : politeS draw m1 wait = 0 := if_pos c1
    simp only [e1, e2]
    clear e1 e2
    go_enter Try.func30, Try.ntmps30
    go_wp2_with fail
    (with_reducible refine (refmet_calls s0 s1 s2 s3 s4 _ _ _ _ ?hg h1 b4 b1 b2).mono ?_)
    case hg => exact (by repeat (first | with_reducible assumption | with_reducible apply Blk.new | with_reducible exact Blk.newAt (by first | rfl | (simp; done) | (simp; omega)) | with_reducible apply Blk.alloc | with_reducible apply Blk.drew | with_reducible apply Blk.drewN | with_reducible apply Blk.keep0 (hm := by with_reducible assumption) | with_reducible apply Blk.keep (hm := by with_reducible assumption) (hg := by omega) | with_reducible apply Blk.far (hp := by first | omega | (simp; done) | (simp; omega)) | with_reducible apply Blk.set1 | rfl))
    rintro en w1 ⟨rfl, hk, hm⟩
    rw [HM.out] at hk
    have hz := hm.size
    (try simp at hz)
    simp only [Value.cells] at hk
    have c_hk := hk.cell; have f_hk := hk.frozen; have l_hk := hk.lt
    go_wp2
    go_ret2
    exact ⟨rfl, hk, (by repeat (first | with_reducible exact Mod.refl _ _ | with_reducible assumption | with_reducible refine Mod.alloc ?_ _ | with_reducible refine Mod.drew ?_ | with_reducible refine Mod.drewN ?_ _ | with_reducible refine Mod.setCell ?_ (by first | exact .inl rfl | (left; (try unfold from_); show _ ≤ _; first | omega | (simp; done) | (simp; omega)) | (right; first | omega | (simp; done) | (simp; omega))) _ | with_reducible refine Mod.call0 ?_ (by with_reducible assumption) | with_reducible refine Mod.call ?_ (by with_reducible assumption) (by rintro _ rfl; first | exact .inl rfl | (right; (first | omega | (simp; done) | (simp; omega))))))⟩
  by_cases c2 : 0 ≤ draw
  · by_cases c3 : 1 ≤ m1
    · have c4 : m1 = 1 ∨ m1 = 2 ∨ m1 = 3 ∨ m1 = 4 := by omega
      rcases c4 with rfl | rfl | rfl | rfl
      · skip
        have e1 : politeK 1 = 2 := if_neg c1
        have e2 : politeS draw 1 wait = forF (1 + draw % 2) wait := (if_neg c1).trans (by rw [show politeN draw 1 = 1 + draw % 2 from by unfold politeN; by_cases hp : 0 < draw; (rw [if_pos ⟨hp, by decide⟩]; rfl); (rw [if_neg (fun h => hp h.1)]; omega)])
        simp only [e1, e2]
        clear e1 e2
        go_enter Try.func30, Try.ntmps30
        go_wp2_with fail
        (with_reducible refine (refmet_calls s0 s1 s2 s3 s4 _ _ _ _ ?hg h1 b4 b1 b2).mono ?_)
        case hg => exact (by repeat (first | with_reducible assumption | with_reducible apply Blk.new | with_reducible exact Blk.newAt (by first | rfl | (simp; done) | (simp; omega)) | with_reducible apply Blk.alloc | with_reducible apply Blk.drew | with_reducible apply Blk.drewN | with_reducible apply Blk.keep0 (hm := by with_reducible assumption) | with_reducible apply Blk.keep (hm := by with_reducible assumption) (hg := by omega) | with_reducible apply Blk.far (hp := by first | omega | (simp; done) | (simp; omega)) | with_reducible apply Blk.set1 | rfl))
        rintro en w1 ⟨rfl, hk, hm⟩
        rw [HM.out] at hk
        have hz := hm.size
        (try simp at hz)
        simp only [Value.cells] at hk
        have c_hk := hk.cell; have f_hk := hk.frozen; have l_hk := hk.lt
        go_wp2_with fail
        refine wp_loop_rounds 2 ?_
        repeat any_goals (rw [rounds_succ]; go_wp2_with (go_at_call 26; (with_reducible refine (steps_calls _ _ _).mono ?_); rintro e w' ⟨rfl, rfl⟩))

        go_ret2
        exact ⟨rfl, hk, (by repeat (first | with_reducible exact Mod.refl _ _ | with_reducible assumption | with_reducible refine Mod.alloc ?_ _ | with_reducible refine Mod.drew ?_ | with_reducible refine Mod.drewN ?_ _ | with_reducible refine Mod.setCell ?_ (by first | exact .inl rfl | (left; (try unfold from_); show _ ≤ _; first | omega | (simp; done) | (simp; omega)) | (right; first | omega | (simp; done) | (simp; omega))) _ | with_reducible refine Mod.call0 ?_ (by with_reducible assumption) | with_reducible refine Mod.call ?_ (by with_reducible assumption) (by rintro _ rfl; first | exact .inl rfl | (right; (first | omega | (simp; done) | (simp; omega))))))⟩
      · skip
        have e1 : politeK 2 = 2 := if_neg c1
        have e2 : politeS draw 2 wait = forF (1 + draw % 4) wait := (if_neg c1).trans (by rw [show politeN draw 2 = 1 + draw % 4 from by unfold politeN; by_cases hp : 0 < draw; (rw [if_pos ⟨hp, by decide⟩]; rfl); (rw [if_neg (fun h => hp h.1)]; omega)])
        simp only [e1, e2]
        clear e1 e2
        go_enter Try.func30, Try.ntmps30
        go_wp2_with fail
        (with_reducible refine (refmet_calls s0 s1 s2 s3 s4 _ _ _ _ ?hg h1 b4 b1 b2).mono ?_)
        case hg => exact (by repeat (first | with_reducible assumption | with_reducible apply Blk.new | with_reducible exact Blk.newAt (by first | rfl | (simp; done) | (simp; omega)) | with_reducible apply Blk.alloc | with_reducible apply Blk.drew | with_reducible apply Blk.drewN | with_reducible apply Blk.keep0 (hm := by with_reducible assumption) | with_reducible apply Blk.keep (hm := by with_reducible assumption) (hg := by omega) | with_reducible apply Blk.far (hp := by first | omega | (simp; done) | (simp; omega)) | with_reducible apply Blk.set1 | rfl))
        rintro en w1 ⟨rfl, hk, hm⟩
        rw [HM.out] at hk
        have hz := hm.size
        (try simp at hz)
        simp only [Value.cells] at hk
        have c_hk := hk.cell; have f_hk := hk.frozen; have l_hk := hk.lt
        go_wp2_with fail
        refine wp_loop_rounds 3 ?_
        repeat any_goals (rw [rounds_succ]; go_wp2_with (go_at_call 26; (with_reducible refine (steps_calls _ _ _).mono ?_); rintro e w' ⟨rfl, rfl⟩))

        go_ret2
        exact ⟨rfl, hk, (by repeat (first | with_reducible exact Mod.refl _ _ | with_reducible assumption | with_reducible refine Mod.alloc ?_ _ | with_reducible refine Mod.drew ?_ | with_reducible refine Mod.drewN ?_ _ | with_reducible refine Mod.setCell ?_ (by first | exact .inl rfl | (left; (try unfold from_); show _ ≤ _; first | omega | (simp; done) | (simp; omega)) | (right; first | omega | (simp; done) | (simp; omega))) _ | with_reducible refine Mod.call0 ?_ (by with_reducible assumption) | with_reducible refine Mod.call ?_ (by with_reducible assumption) (by rintro _ rfl; first | exact .inl rfl | (right; (first | omega | (simp; done) | (simp; omega))))))⟩
      · skip
        have e1 : politeK 3 = 2 := if_neg c1
        have e2 : politeS draw 3 wait = forF (1 + draw % 8) wait := (if_neg c1).trans (by rw [show politeN draw 3 = 1 + draw % 8 from by unfold politeN; by_cases hp : 0 < draw; (rw [if_pos ⟨hp, by decide⟩]; rfl); (rw [if_neg (fun h => hp h.1)]; omega)])
        simp only [e1, e2]
        clear e1 e2
        go_enter Try.func30, Try.ntmps30
        go_wp2_with fail
        (with_reducible refine (refmet_calls s0 s1 s2 s3 s4 _ _ _ _ ?hg h1 b4 b1 b2).mono ?_)
        case hg => exact (by repeat (first | with_reducible assumption | with_reducible apply Blk.new | with_reducible exact Blk.newAt (by first | rfl | (simp; done) | (simp; omega)) | with_reducible apply Blk.alloc | with_reducible apply Blk.drew | with_reducible apply Blk.drewN | with_reducible apply Blk.keep0 (hm := by with_reducible assumption) | with_reducible apply Blk.keep (hm := by with_reducible assumption) (hg := by omega) | with_reducible apply Blk.far (hp := by first | omega | (simp; done) | (simp; omega)) | with_reducible apply Blk.set1 | rfl))
        rintro en w1 ⟨rfl, hk, hm⟩
        rw [HM.out] at hk
        have hz := hm.size
        (try simp at hz)
        simp only [Value.cells] at hk
        have c_hk := hk.cell; have f_hk := hk.frozen; have l_hk := hk.lt
        go_wp2_with fail
        refine wp_loop_rounds 4 ?_
        repeat any_goals (rw [rounds_succ]; go_wp2_with (go_at_call 26; (with_reducible refine (steps_calls _ _ _).mono ?_); rintro e w' ⟨rfl, rfl⟩))

        go_ret2
        exact ⟨rfl, hk, (by repeat (first | with_reducible exact Mod.refl _ _ | with_reducible assumption | with_reducible refine Mod.alloc ?_ _ | with_reducible refine Mod.drew ?_ | with_reducible refine Mod.drewN ?_ _ | with_reducible refine Mod.setCell ?_ (by first | exact .inl rfl | (left; (try unfold from_); show _ ≤ _; first | omega | (simp; done) | (simp; omega)) | (right; first | omega | (simp; done) | (simp; omega))) _ | with_reducible refine Mod.call0 ?_ (by with_reducible assumption) | with_reducible refine Mod.call ?_ (by with_reducible assumption) (by rintro _ rfl; first | exact .inl rfl | (right; (first | omega | (simp; done) | (simp; omega))))))⟩
      · skip
        have e1 : politeK 4 = 2 := if_neg c1
        have e2 : politeS draw 4 wait = forF (1 + draw % 16) wait := (if_neg c1).trans (by rw [show politeN draw 4 = 1 + draw % 16 from by unfold politeN; by_cases hp : 0 < draw; (rw [if_pos ⟨hp, by decide⟩]; rfl); (rw [if_neg (fun h => hp h.1)]; omega)])
        simp only [e1, e2]
        clear e1 e2
        go_enter Try.func30, Try.ntmps30
        go_wp2_with fail
        (with_reducible refine (refmet_calls s0 s1 s2 s3 s4 _ _ _ _ ?hg h1 b4 b1 b2).mono ?_)
        case hg => exact (by repeat (first | with_reducible assumption | with_reducible apply Blk.new | with_reducible exact Blk.newAt (by first | rfl | (simp; done) | (simp; omega)) | with_reducible apply Blk.alloc | with_reducible apply Blk.drew | with_reducible apply Blk.drewN | with_reducible apply Blk.keep0 (hm := by with_reducible assumption) | with_reducible apply Blk.keep (hm := by with_reducible assumption) (hg := by omega) | with_reducible apply Blk.far (hp := by first | omega | (simp; done) | (simp; omega)) | with_reducible apply Blk.set1 | rfl))
        rintro en w1 ⟨rfl, hk, hm⟩
        rw [HM.out] at hk
        have hz := hm.size
        (try simp at hz)
        simp only [Value.cells] at hk
        have c_hk := hk.cell; have f_hk := hk.frozen; have l_hk := hk.lt
        go_wp2_with fail
        refine wp_loop_rounds 5 ?_
        repeat any_goals (rw [rounds_succ]; go_wp2_with (go_at_call 26; (with_reducible refine (steps_calls _ _ _).mono ?_); rintro e w' ⟨rfl, rfl⟩))

        go_ret2
        exact ⟨rfl, hk, (by repeat (first | with_reducible exact Mod.refl _ _ | with_reducible assumption | with_reducible refine Mod.alloc ?_ _ | with_reducible refine Mod.drew ?_ | with_reducible refine Mod.drewN ?_ _ | with_reducible refine Mod.setCell ?_ (by first | exact .inl rfl | (left; (try unfold from_); show _ ≤ _; first | omega | (simp; done) | (simp; omega)) | (right; first | omega | (simp; done) | (simp; omega))) _ | with_reducible refine Mod.call0 ?_ (by with_reducible assumption) | with_reducible refine Mod.call ?_ (by with_reducible assumption) (by rintro _ rfl; first | exact .inl rfl | (right; (first | omega | (simp; done) | (simp; omega))))))⟩
    · have c3' : decide (1 ≤ m1) = false := decide_eq_false c3
      have e1 : politeK m1 = 2 := if_neg c1
      have e2 : politeS draw m1 wait = forF (1) wait := (if_neg c1).trans (by rw [show politeN draw m1 = 1 from if_neg (fun h => c3 (by omega))])
      simp only [e1, e2]
      clear e1 e2
      go_enter Try.func30, Try.ntmps30
      go_wp2_with fail
      (with_reducible refine (refmet_calls s0 s1 s2 s3 s4 _ _ _ _ ?hg h1 b4 b1 b2).mono ?_)
      case hg => exact (by repeat (first | with_reducible assumption | with_reducible apply Blk.new | with_reducible exact Blk.newAt (by first | rfl | (simp; done) | (simp; omega)) | with_reducible apply Blk.alloc | with_reducible apply Blk.drew | with_reducible apply Blk.drewN | with_reducible apply Blk.keep0 (hm := by with_reducible assumption) | with_reducible apply Blk.keep (hm := by with_reducible assumption) (hg := by omega) | with_reducible apply Blk.far (hp := by first | omega | (simp; done) | (simp; omega)) | with_reducible apply Blk.set1 | rfl))
      rintro en w1 ⟨rfl, hk, hm⟩
      rw [HM.out] at hk
      have hz := hm.size
      (try simp at hz)
      simp only [Value.cells] at hk
      have c_hk := hk.cell; have f_hk := hk.frozen; have l_hk := hk.lt
      go_wp2_with (go_at_call 26; (with_reducible refine (steps_calls _ _ _).mono ?_); rintro e w' ⟨rfl, rfl⟩)
      go_ret2
      exact ⟨rfl, hk, (by repeat (first | with_reducible exact Mod.refl _ _ | with_reducible assumption | with_reducible refine Mod.alloc ?_ _ | with_reducible refine Mod.drew ?_ | with_reducible refine Mod.drewN ?_ _ | with_reducible refine Mod.setCell ?_ (by first | exact .inl rfl | (left; (try unfold from_); show _ ≤ _; first | omega | (simp; done) | (simp; omega)) | (right; first | omega | (simp; done) | (simp; omega))) _ | with_reducible refine Mod.call0 ?_ (by with_reducible assumption) | with_reducible refine Mod.call ?_ (by with_reducible assumption) (by rintro _ rfl; first | exact .inl rfl | (right; (first | omega | (simp; done) | (simp; omega))))))⟩
  · skip
    have e1 : politeK m1 = 2 := if_neg c1
    have e2 : politeS draw m1 wait = forF (1) wait := (if_neg c1).trans (by rw [show politeN draw m1 = 1 from if_neg (fun h => c2 (by omega))])
    simp only [e1, e2]
    clear e1 e2
    go_enter Try.func30, Try.ntmps30
    go_wp2_with fail
    (with_reducible refine (refmet_calls s0 s1 s2 s3 s4 _ _ _ _ ?hg h1 b4 b1 b2).mono ?_)
    case hg => exact (by repeat (first | with_reducible assumption | with_reducible apply Blk.new | with_reducible exact Blk.newAt (by first | rfl | (simp; done) | (simp; omega)) | with_reducible apply Blk.alloc | with_reducible apply Blk.drew | with_reducible apply Blk.drewN | with_reducible apply Blk.keep0 (hm := by with_reducible assumption) | with_reducible apply Blk.keep (hm := by with_reducible assumption) (hg := by omega) | with_reducible apply Blk.far (hp := by first | omega | (simp; done) | (simp; omega)) | with_reducible apply Blk.set1 | rfl))
    rintro en w1 ⟨rfl, hk, hm⟩
    rw [HM.out] at hk
    have hz := hm.size
    (try simp at hz)
    simp only [Value.cells] at hk
    have c_hk := hk.cell; have f_hk := hk.frozen; have l_hk := hk.lt
    go_wp2_with (go_at_call 26; (with_reducible refine (steps_calls _ _ _).mono ?_); rintro e w' ⟨rfl, rfl⟩)
    go_ret2
    exact ⟨rfl, hk, (by repeat (first | with_reducible exact Mod.refl _ _ | with_reducible assumption | with_reducible refine Mod.alloc ?_ _ | with_reducible refine Mod.drew ?_ | with_reducible refine Mod.drewN ?_ _ | with_reducible refine Mod.setCell ?_ (by first | exact .inl rfl | (left; (try unfold from_); show _ ≤ _; first | omega | (simp; done) | (simp; omega)) | (right; first | omega | (simp; done) | (simp; omega))) _ | with_reducible refine Mod.call0 ?_ (by with_reducible assumption) | with_reducible refine Mod.call ?_ (by with_reducible assumption) (by rintro _ rfl; first | exact .inl rfl | (right; (first | omega | (simp; done) | (simp; omega))))))⟩

set_option maxHeartbeats 4000000 in
theorem law_politeDecides (s0 s1 s2 s3 s4 a0 a1 a2 a3 : Int) (a4 : Bool) (b0 b1 b2 b3 : Int) (b4 : Bool) (draw wait : Int) (w : World) (h1 : I64 s1) :
    Calls Try.prog 9 #[.agg #[.int .i64 s0, .int .i64 s1, .int .i64 s2, .int .i64 s3, .int .i64 s4], .agg #[.int .i64 a0, .int .i64 a1, .int .i64 a2, .int .i64 a3, .bool a4],
      .agg #[.int .i64 b0, .int .i64 b1, .int .i64 b2, .int .i64 b3, .bool b4], .int .i64 draw, .int .i64 wait] w
     fun en w' => en = .returned (.bool true) ∧ Mod nowhere w w' := by
  generalize hM : metF ⟨s0, s1, s2, s3, s4⟩ ⟨b0, b1, b2, b3, b4⟩ = m
  obtain ⟨x0, x1, x2, x3, x4⟩ := m
  generalize hK : politeK x1 = K
  generalize hS : politeS draw x1 wait = S
  have c1 := fun W => hide (polite_calls s0 s1 s2 s3 s4 a0 a1 a2 a3 b0 b1 b2 b3 a4 b4 draw wait W h1)
  have c2 := fun g W hg => hide (refpolite_calls s0 s1 s2 s3 s4 a0 a1 a2 a3 b0 b1 b2 b3 a4 b4 draw wait g W hg h1 x0 x1 x2 x3 x4 hM)
  simp only [hM, hK, hS] at c1 c2
  clear hM hK hS
  go_enter Try.func9, Try.ntmps9
  go_wp2_with fail
  (with_reducible refine (alive6_calls _).mono ?_)
  rintro e w1 ⟨rfl, hbw1⟩
  have hzw1 := hbw1.size
  (try simp at hzw1)
  (try (have ltw10 : w.heap.size < w1.heap.size := (by omega); have lcw10 := fun o => hbw1.cell (b := w.heap.size) o (by first | omega | (simp; done) | (simp; omega)) (id); have lfw10 := fun o => hbw1.frozen (b := w.heap.size) o (by first | omega | (simp; done) | (simp; omega)) (id)))
  (try (have ltw11 : w.heap.size + 1 < w1.heap.size := (by omega); have lcw11 := fun o => hbw1.cell (b := w.heap.size + 1) o (by first | omega | (simp; done) | (simp; omega)) (id); have lfw11 := fun o => hbw1.frozen (b := w.heap.size + 1) o (by first | omega | (simp; done) | (simp; omega)) (id)))
  (try (have ltw12 : w.heap.size + 1 + 1 < w1.heap.size := (by omega); have lcw12 := fun o => hbw1.cell (b := w.heap.size + 1 + 1) o (by first | omega | (simp; done) | (simp; omega)) (id); have lfw12 := fun o => hbw1.frozen (b := w.heap.size + 1 + 1) o (by first | omega | (simp; done) | (simp; omega)) (id)))
  skip
  go_wp2_with fail
  (with_reducible refine ((c1 _).out).mono ?_)
  rintro e w2 ⟨rfl, hbw2⟩
  have hzw2 := hbw2.size
  (try simp at hzw2)
  (try (have ltw20 : w.heap.size < w2.heap.size := (by omega); have lcw20 := fun o => hbw2.cell (b := w.heap.size) o (by first | omega | (simp; done) | (simp; omega)) (id); have lfw20 := fun o => hbw2.frozen (b := w.heap.size) o (by first | omega | (simp; done) | (simp; omega)) (id)))
  (try (have ltw21 : w.heap.size + 1 < w2.heap.size := (by omega); have lcw21 := fun o => hbw2.cell (b := w.heap.size + 1) o (by first | omega | (simp; done) | (simp; omega)) (id); have lfw21 := fun o => hbw2.frozen (b := w.heap.size + 1) o (by first | omega | (simp; done) | (simp; omega)) (id)))
  (try (have ltw22 : w.heap.size + 1 + 1 < w2.heap.size := (by omega); have lcw22 := fun o => hbw2.cell (b := w.heap.size + 1 + 1) o (by first | omega | (simp; done) | (simp; omega)) (id); have lfw22 := fun o => hbw2.frozen (b := w.heap.size + 1 + 1) o (by first | omega | (simp; done) | (simp; omega)) (id)))
  skip
  go_wp2_with fail
  (with_reducible refine (plain_calls _ _ _ _ _ _).mono ?_)
  rintro e w3 ⟨rfl, hbw3⟩
  have hzw3 := hbw3.size
  (try simp at hzw3)
  (try (have ltw30 : w.heap.size < w3.heap.size := (by omega); have lcw30 := fun o => hbw3.cell (b := w.heap.size) o (by first | omega | (simp; done) | (simp; omega)) (id); have lfw30 := fun o => hbw3.frozen (b := w.heap.size) o (by first | omega | (simp; done) | (simp; omega)) (id)))
  (try (have ltw31 : w.heap.size + 1 < w3.heap.size := (by omega); have lcw31 := fun o => hbw3.cell (b := w.heap.size + 1) o (by first | omega | (simp; done) | (simp; omega)) (id); have lfw31 := fun o => hbw3.frozen (b := w.heap.size + 1) o (by first | omega | (simp; done) | (simp; omega)) (id)))
  (try (have ltw32 : w.heap.size + 1 + 1 < w3.heap.size := (by omega); have lcw32 := fun o => hbw3.cell (b := w.heap.size + 1 + 1) o (by first | omega | (simp; done) | (simp; omega)) (id); have lfw32 := fun o => hbw3.frozen (b := w.heap.size + 1 + 1) o (by first | omega | (simp; done) | (simp; omega)) (id)))
  (try (have ltw33 : w2.heap.size < w3.heap.size := (by omega); have lcw33 := fun o => hbw3.cell (b := w2.heap.size) o (by first | omega | (simp; done) | (simp; omega)) (id); have lfw33 := fun o => hbw3.frozen (b := w2.heap.size) o (by first | omega | (simp; done) | (simp; omega)) (id)))
  (try (have ltw34 : w2.heap.size + 1 < w3.heap.size := (by omega); have lcw34 := fun o => hbw3.cell (b := w2.heap.size + 1) o (by first | omega | (simp; done) | (simp; omega)) (id); have lfw34 := fun o => hbw3.frozen (b := w2.heap.size + 1) o (by first | omega | (simp; done) | (simp; omega)) (id)))
  skip
  go_upto_region 5 with fail
  go_cut [14, 15] (fun s14 s15 wx => s14 = .int .i64 K ∧ s15 = .int .i64 S ∧ Blk wx w3.heap.size 27 #[.int .i64 x0, .int .i64 x1, .int .i64 x2, .int .i64 x3, .int .i64 x4] ∧ Blk wx w2.heap.size 40 #[.int .i64 K, .int .i64 S] ∧ Blk wx (w2.heap.size + 1) 23 #[.int .i64 x0, .int .i64 x1, .int .i64 x2, .int .i64 x3, .int .i64 x4] ∧ Mod nowhere w wx)
  case first =>
    go_region_held3 (fun w' => w'.cell? ⟨w.heap.size + 1, 0, none⟩ = some (.int .i64 a0) ∧ w'.cell? ⟨w.heap.size + 1, 1, none⟩ = some (.int .i64 a1) ∧ w'.cell? ⟨w.heap.size + 1, 2, none⟩ = some (.int .i64 a2) ∧ w'.cell? ⟨w.heap.size + 1, 3, none⟩ = some (.int .i64 a3) ∧ w'.cell? ⟨w.heap.size + 1, 4, none⟩ = some (.bool a4) ∧ w'.cell? ⟨w.heap.size + 1 + 1, 0, none⟩ = some (.int .i64 b0) ∧ w'.cell? ⟨w.heap.size + 1 + 1, 1, none⟩ = some (.int .i64 b1) ∧ w'.cell? ⟨w.heap.size + 1 + 1, 2, none⟩ = some (.int .i64 b2) ∧ w'.cell? ⟨w.heap.size + 1 + 1, 3, none⟩ = some (.int .i64 b3) ∧ w'.cell? ⟨w.heap.size + 1 + 1, 4, none⟩ = some (.bool b4) ∧ Mod (from_ w3.heap.size) w3 w') ((repeat' apply And.intro) <;> first | (simp [*]; done) | (go_simp; done) | exact (by repeat (first | with_reducible exact Mod.refl _ _ | with_reducible assumption | with_reducible refine Mod.alloc ?_ _ | with_reducible refine Mod.drew ?_ | with_reducible refine Mod.drewN ?_ _ | with_reducible refine Mod.setCell ?_ (by first | exact .inl rfl | (left; (try unfold from_); show _ ≤ _; first | omega | (simp; done) | (simp; omega)) | (right; first | omega | (simp; done) | (simp; omega))) _ | with_reducible refine Mod.call0 ?_ (by with_reducible assumption) | with_reducible refine Mod.call ?_ (by with_reducible assumption) (by rintro _ rfl; first | exact .inl rfl | (right; (first | omega | (simp; done) | (simp; omega))))))) (first | (go_at_call 24; (with_reducible refine (side_calls _ _ _ _ _ _).mono ?_); rintro e w4 ⟨rfl, hbw4⟩; have hzw4 := hbw4.size; (try simp at hzw4); (try (have ltw40 : w.heap.size < w4.heap.size := (by omega); have lcw40 := fun o => hbw4.cell (b := w.heap.size) o (by first | omega | (simp; done) | (simp; omega)) (id); have lfw40 := fun o => hbw4.frozen (b := w.heap.size) o (by first | omega | (simp; done) | (simp; omega)) (id))); (try (have ltw41 : w.heap.size + 1 < w4.heap.size := (by omega); have lcw41 := fun o => hbw4.cell (b := w.heap.size + 1) o (by first | omega | (simp; done) | (simp; omega)) (id); have lfw41 := fun o => hbw4.frozen (b := w.heap.size + 1) o (by first | omega | (simp; done) | (simp; omega)) (id))); (try (have ltw42 : w.heap.size + 1 + 1 < w4.heap.size := (by omega); have lcw42 := fun o => hbw4.cell (b := w.heap.size + 1 + 1) o (by first | omega | (simp; done) | (simp; omega)) (id); have lfw42 := fun o => hbw4.frozen (b := w.heap.size + 1 + 1) o (by first | omega | (simp; done) | (simp; omega)) (id))); (try (have ltw43 : w2.heap.size < w4.heap.size := (by omega); have lcw43 := fun o => hbw4.cell (b := w2.heap.size) o (by first | omega | (simp; done) | (simp; omega)) (id); have lfw43 := fun o => hbw4.frozen (b := w2.heap.size) o (by first | omega | (simp; done) | (simp; omega)) (id))); (try (have ltw44 : w2.heap.size + 1 < w4.heap.size := (by omega); have lcw44 := fun o => hbw4.cell (b := w2.heap.size + 1) o (by first | omega | (simp; done) | (simp; omega)) (id); have lfw44 := fun o => hbw4.frozen (b := w2.heap.size + 1) o (by first | omega | (simp; done) | (simp; omega)) (id))); (try (have ltw45 : w3.heap.size < w4.heap.size := (by omega); have lcw45 := fun o => hbw4.cell (b := w3.heap.size) o (by first | omega | (simp; done) | (simp; omega)) (id); have lfw45 := fun o => hbw4.frozen (b := w3.heap.size) o (by first | omega | (simp; done) | (simp; omega)) (id))); skip) | (go_at_call 30; refine (c2 _ _ ?_).out.mono ?_; exact (by repeat (first | with_reducible assumption | with_reducible apply Blk.new | with_reducible exact Blk.newAt (by first | rfl | (simp; done) | (simp; omega)) | with_reducible apply Blk.alloc | with_reducible apply Blk.drew | with_reducible apply Blk.drewN | with_reducible apply Blk.keep0 (hm := by with_reducible assumption) | with_reducible apply Blk.keep (hm := by with_reducible assumption) (hg := by omega) | with_reducible apply Blk.far (hp := by first | omega | (simp; done) | (simp; omega)) | with_reducible apply Blk.set1 | rfl)); rintro en w5 ⟨rfl, hk5, hm5⟩; have hzw5 := hm5.size; (try simp at hzw5); (try (have ltw50 : w.heap.size < w5.heap.size := (by omega); have lcw50 := fun o => hm5.cell (b := w.heap.size) o (by first | omega | (simp; done) | (simp; omega)) (by omega); have lfw50 := fun o => hm5.frozen (b := w.heap.size) o (by first | omega | (simp; done) | (simp; omega)) (by omega))); (try (have ltw51 : w.heap.size + 1 < w5.heap.size := (by omega); have lcw51 := fun o => hm5.cell (b := w.heap.size + 1) o (by first | omega | (simp; done) | (simp; omega)) (by omega); have lfw51 := fun o => hm5.frozen (b := w.heap.size + 1) o (by first | omega | (simp; done) | (simp; omega)) (by omega))); (try (have ltw52 : w.heap.size + 1 + 1 < w5.heap.size := (by omega); have lcw52 := fun o => hm5.cell (b := w.heap.size + 1 + 1) o (by first | omega | (simp; done) | (simp; omega)) (by omega); have lfw52 := fun o => hm5.frozen (b := w.heap.size + 1 + 1) o (by first | omega | (simp; done) | (simp; omega)) (by omega))); (try (have ltw53 : w2.heap.size < w5.heap.size := (by omega); have lcw53 := fun o => hm5.cell (b := w2.heap.size) o (by first | omega | (simp; done) | (simp; omega)) (by omega); have lfw53 := fun o => hm5.frozen (b := w2.heap.size) o (by first | omega | (simp; done) | (simp; omega)) (by omega))); (try (have ltw54 : w2.heap.size + 1 < w5.heap.size := (by omega); have lcw54 := fun o => hm5.cell (b := w2.heap.size + 1) o (by first | omega | (simp; done) | (simp; omega)) (by omega); have lfw54 := fun o => hm5.frozen (b := w2.heap.size + 1) o (by first | omega | (simp; done) | (simp; omega)) (by omega)))))
    all_goals
      go_wp2_with fail
      go_meet
      exact ⟨rfl, rfl, (by repeat (first | with_reducible assumption | with_reducible apply Blk.new | with_reducible exact Blk.newAt (by first | rfl | (simp; done) | (simp; omega)) | with_reducible apply Blk.alloc | with_reducible apply Blk.drew | with_reducible apply Blk.drewN | with_reducible apply Blk.keep0 (hm := by with_reducible assumption) | with_reducible apply Blk.keep (hm := by with_reducible assumption) (hg := by omega) | with_reducible apply Blk.far (hp := by first | omega | (simp; done) | (simp; omega)) | with_reducible apply Blk.set1 | rfl)), (by repeat (first | with_reducible assumption | with_reducible apply Blk.new | with_reducible exact Blk.newAt (by first | rfl | (simp; done) | (simp; omega)) | with_reducible apply Blk.alloc | with_reducible apply Blk.drew | with_reducible apply Blk.drewN | with_reducible apply Blk.keep0 (hm := by with_reducible assumption) | with_reducible apply Blk.keep (hm := by with_reducible assumption) (hg := by omega) | with_reducible apply Blk.far (hp := by first | omega | (simp; done) | (simp; omega)) | with_reducible apply Blk.set1 | rfl)), (by repeat (first | with_reducible assumption | with_reducible apply Blk.new | with_reducible exact Blk.newAt (by first | rfl | (simp; done) | (simp; omega)) | with_reducible apply Blk.alloc | with_reducible apply Blk.drew | with_reducible apply Blk.drewN | with_reducible apply Blk.keep0 (hm := by with_reducible assumption) | with_reducible apply Blk.keep (hm := by with_reducible assumption) (hg := by omega) | with_reducible apply Blk.far (hp := by first | omega | (simp; done) | (simp; omega)) | with_reducible apply Blk.set1 | rfl)), (by repeat (first | with_reducible exact Mod.refl _ _ | with_reducible assumption | with_reducible refine Mod.alloc ?_ _ | with_reducible refine Mod.drew ?_ | with_reducible refine Mod.drewN ?_ _ | with_reducible refine Mod.setCell ?_ (by first | exact .inl rfl | (left; (try unfold from_); show _ ≤ _; first | omega | (simp; done) | (simp; omega)) | (right; first | omega | (simp; done) | (simp; omega))) _ | with_reducible refine Mod.call0 ?_ (by with_reducible assumption) | with_reducible refine Mod.call ?_ (by with_reducible assumption) (by rintro _ rfl; first | exact .inl rfl | (right; (first | omega | (simp; done) | (simp; omega))))))⟩
  case rest =>
    obtain ⟨rfl, rfl, h3, h4, h5, hmc⟩ := hcut
    have c_h3 := h3.cell; have f_h3 := h3.frozen; have l_h3 := h3.lt; have c_h4 := h4.cell; have f_h4 := h4.frozen; have l_h4 := h4.lt; have c_h5 := h5.cell; have f_h5 := h5.frozen; have l_h5 := h5.lt
    go_wp2_with fail
    go_region_held3 (fun w' => w'.cell? ⟨w3.heap.size, 0, none⟩ = some (.int .i64 x0) ∧ w'.cell? ⟨w3.heap.size, 1, none⟩ = some (.int .i64 x1) ∧ w'.cell? ⟨w3.heap.size, 2, none⟩ = some (.int .i64 x2) ∧ w'.cell? ⟨w3.heap.size, 3, none⟩ = some (.int .i64 x3) ∧ w'.cell? ⟨w3.heap.size, 4, none⟩ = some (.int .i64 x4) ∧ w'.cell? ⟨w2.heap.size, 0, none⟩ = some (.int .i64 K) ∧ w'.cell? ⟨w2.heap.size, 1, none⟩ = some (.int .i64 S) ∧ w'.cell? ⟨w2.heap.size + 1, 0, none⟩ = some (.int .i64 x0) ∧ w'.cell? ⟨w2.heap.size + 1, 1, none⟩ = some (.int .i64 x1) ∧ w'.cell? ⟨w2.heap.size + 1, 2, none⟩ = some (.int .i64 x2) ∧ w'.cell? ⟨w2.heap.size + 1, 3, none⟩ = some (.int .i64 x3) ∧ w'.cell? ⟨w2.heap.size + 1, 4, none⟩ = some (.int .i64 x4) ∧ Mod nowhere wc w') ((repeat' apply And.intro) <;> first | (simp [*]; done) | (go_simp; done) | exact (by repeat (first | with_reducible exact Mod.refl _ _ | with_reducible assumption | with_reducible refine Mod.alloc ?_ _ | with_reducible refine Mod.drew ?_ | with_reducible refine Mod.drewN ?_ _ | with_reducible refine Mod.setCell ?_ (by first | exact .inl rfl | (left; (try unfold from_); show _ ≤ _; first | omega | (simp; done) | (simp; omega)) | (right; first | omega | (simp; done) | (simp; omega))) _ | with_reducible refine Mod.call0 ?_ (by with_reducible assumption) | with_reducible refine Mod.call ?_ (by with_reducible assumption) (by rintro _ rfl; first | exact .inl rfl | (right; (first | omega | (simp; done) | (simp; omega))))))) (first | (go_at_call 15; (with_reducible refine (plain_calls _ _ _ _ _ _).mono ?_); rintro e w6 ⟨rfl, hbw6⟩; have hzw6 := hbw6.size; (try simp at hzw6); (try (have ltw60 : w3.heap.size < w6.heap.size := (by omega); have lcw60 := fun o => hbw6.cell (b := w3.heap.size) o (by first | omega | (simp; done) | (simp; omega)) (id); have lfw60 := fun o => hbw6.frozen (b := w3.heap.size) o (by first | omega | (simp; done) | (simp; omega)) (id))); (try (have ltw61 : w2.heap.size < w6.heap.size := (by omega); have lcw61 := fun o => hbw6.cell (b := w2.heap.size) o (by first | omega | (simp; done) | (simp; omega)) (id); have lfw61 := fun o => hbw6.frozen (b := w2.heap.size) o (by first | omega | (simp; done) | (simp; omega)) (id))); (try (have ltw62 : w2.heap.size + 1 < w6.heap.size := (by omega); have lcw62 := fun o => hbw6.cell (b := w2.heap.size + 1) o (by first | omega | (simp; done) | (simp; omega)) (id); have lfw62 := fun o => hbw6.frozen (b := w2.heap.size + 1) o (by first | omega | (simp; done) | (simp; omega)) (id))); skip))
    go_wp2
    go_ret
    exact ⟨rfl, (by repeat (first | with_reducible exact Mod.refl _ _ | with_reducible assumption | with_reducible refine Mod.alloc ?_ _ | with_reducible refine Mod.drew ?_ | with_reducible refine Mod.drewN ?_ _ | with_reducible refine Mod.setCell ?_ (by first | exact .inl rfl | (left; (try unfold from_); show _ ≤ _; first | omega | (simp; done) | (simp; omega)) | (right; first | omega | (simp; done) | (simp; omega))) _ | with_reducible refine Mod.call0 ?_ (by with_reducible assumption) | with_reducible refine Mod.call ?_ (by with_reducible assumption) (by rintro _ rfl; first | exact .inl rfl | (right; (first | omega | (simp; done) | (simp; omega))))))⟩
end Go.Proofs.Ytdbheagfnodfmaa
