/- What the document's functions of layer 5, and the statements' own small ones, do: each by a function of numbers. -/
import Derived.Test.YtdbheagfnodfmaaChoice
import Derived.BigQuiet
import Derived.Deep.QuietTactic
import Derived.Deep.RegionWith
namespace Go.Proofs.Ytdbheagfnodfmaa
open Go.RowKit

set_option maxHeartbeats 1000000 in
theorem plain_calls (a b c d e : Int) (w : World) :
    Calls Try.prog 15 #[.agg #[.int .i64 a, .int .i64 b, .int .i64 c, .int .i64 d, .int .i64 e]] w
     fun en w' => en = .returned (.agg #[.int .i64 a, .int .i64 b, .int .i64 c, .int .i64 d, .int .i64 e]) ∧ Mod nowhere w w' := by
  go_enter Try.func15, Try.ntmps15
  go_wp2
  exact bodyPost_ret (v := .agg #[.int .i64 a, .int .i64 b, .int .i64 c, .int .i64 d, .int .i64 e]) (by simp [results, Try.results15, go_sem]) rfl ⟨rfl, (by repeat (first | with_reducible exact Mod.refl _ _ | with_reducible assumption | with_reducible refine Mod.alloc ?_ _ | with_reducible refine Mod.drew ?_ | with_reducible refine Mod.drewN ?_ _ | with_reducible refine Mod.setCell ?_ (by first | exact .inl rfl | (left; (try unfold from_); show _ ≤ _; first | omega | (simp; done) | (simp; omega)) | (right; first | omega | (simp; done) | (simp; omega))) _ | with_reducible refine Mod.call0 ?_ (by with_reducible assumption) | with_reducible refine Mod.call ?_ (by with_reducible assumption) (by rintro _ rfl; first | exact .inl rfl | (right; (first | omega | (simp; done) | (simp; omega))))))⟩

set_option maxHeartbeats 1000000 in
theorem most_calls (a0 : Int) (w : World) (h : a0 ≤ 1000000) :
    Calls Try.prog 34 #[.int .i64 a0] w fun e w' => e = .returned (.int .i64 a0) ∧ w = w' := by
  go_enter Try.func34, Try.ntmps34
  go_wp2
  go_ret
  exact ⟨rfl, rfl⟩
theorem most_calls2 (a0 : Int) (w : World) (h : 1000000 ≤ a0) :
    Calls Try.prog 34 #[.int .i64 a0] w fun e w' => e = .returned (.int .i64 1000000) ∧ w = w' := by
  go_enter Try.func34, Try.ntmps34
  go_wp2
  · go_ret
    exact ⟨rfl, rfl⟩
  · go_ret
    exact ⟨ret_int (by omega), rfl⟩

set_option maxHeartbeats 1000000 in
theorem refmet_calls (a b c d e f i : Int) (g : Nat) (w : World) (hg : Blk w g 27 #[.int .i64 a, .int .i64 b, .int .i64 c, .int .i64 d, .int .i64 e]) (hb : I64 b) (j : Bool) (x y : Int) :
    Calls Try.prog 17 #[.pointer (some ⟨g, 0, none⟩), .int .i64 f, .int .i64 i] w
     fun en w' => en = .returned (.tuple #[]) ∧ Blk w' g 27 (metF ⟨a, b, c, d, e⟩ ⟨f, x, y, i, j⟩).v.cells ∧ Mod (· = g) w w' := by
  obtain ⟨hb, _⟩ := hb
  have c0 := hg.cell 0
  have c1 := hg.cell 1
  have c2 := hg.cell 2
  have c3 := hg.cell 3
  have c4 := hg.cell 4
  have f0 := hg.frozen 0
  have f1 := hg.frozen 1
  have f2 := hg.frozen 2
  have f3 := hg.frozen 3
  have f4 := hg.frozen 4
  simp only [List.getElem?_toArray, List.getElem?_cons_zero, List.getElem?_cons_succ] at c0 c1 c2 c3 c4
  by_cases hne : a = f
  · have h1 : (a == f) = true := beq_iff_eq.2 hne
    by_cases h2 : b < 1000000
    · have hfin : metF ⟨a, b, c, d, e⟩ ⟨f, x, y, i, j⟩ = ⟨a, b + 1, c, d, e⟩ := by simp [metF, hne, moreF]; omega
      rw [hfin]
      clear hne hfin
      go_enter Try.func17, Try.ntmps17
      go_wp2_with (go_at_call 34; (with_reducible refine (most_calls _ _ (by omega)).mono ?_); rintro e w' ⟨rfl, rfl⟩)
      refine bodyPost_ret (results_none rfl _ _ _) rfl ?_
      exact ⟨rfl, (hg.set_ 1 _).set_ 1 _, (by repeat (first | with_reducible exact Mod.refl _ _ | with_reducible assumption | with_reducible refine Mod.alloc ?_ _ | with_reducible refine Mod.drew ?_ | with_reducible refine Mod.drewN ?_ _ | with_reducible refine Mod.setCell ?_ (by first | exact .inl rfl | (left; (try unfold from_); show _ ≤ _; first | omega | (simp; done) | (simp; omega)) | (right; first | omega | (simp; done) | (simp; omega))) _ | with_reducible refine Mod.call0 ?_ (by with_reducible assumption) | with_reducible refine Mod.call ?_ (by with_reducible assumption) (by rintro _ rfl; first | exact .inl rfl | (right; (first | omega | (simp; done) | (simp; omega))))))⟩
    · have hfin : metF ⟨a, b, c, d, e⟩ ⟨f, x, y, i, j⟩ = ⟨a, 1000000, c, d, e⟩ := by simp [metF, hne, moreF]; omega
      rw [hfin]
      clear hne hfin
      go_enter Try.func17, Try.ntmps17
      go_wp2_with (go_at_call 34; (with_reducible refine (most_calls2 _ _ (by omega)).mono ?_); rintro e w' ⟨rfl, rfl⟩)
      refine bodyPost_ret (results_none rfl _ _ _) rfl ?_
      exact ⟨rfl, (hg.set_ 1 _), (by repeat (first | with_reducible exact Mod.refl _ _ | with_reducible assumption | with_reducible refine Mod.alloc ?_ _ | with_reducible refine Mod.drew ?_ | with_reducible refine Mod.drewN ?_ _ | with_reducible refine Mod.setCell ?_ (by first | exact .inl rfl | (left; (try unfold from_); show _ ≤ _; first | omega | (simp; done) | (simp; omega)) | (right; first | omega | (simp; done) | (simp; omega))) _ | with_reducible refine Mod.call0 ?_ (by with_reducible assumption) | with_reducible refine Mod.call ?_ (by with_reducible assumption) (by rintro _ rfl; first | exact .inl rfl | (right; (first | omega | (simp; done) | (simp; omega))))))⟩
  · have h1 : (a == f) = false := beq_eq_false_iff_ne.2 hne
    have hfin : metF ⟨a, b, c, d, e⟩ ⟨f, x, y, i, j⟩ = ⟨f, 1, c, i, 0⟩ := by simp [metF, hne]
    rw [hfin]
    clear hne hfin
    go_enter Try.func17, Try.ntmps17
    go_wp2
    go_end0
    exact ⟨rfl, (((hg.set_ 0 _).set_ 1 _).set_ 3 _).set_ 4 _, (by repeat (first | with_reducible exact Mod.refl _ _ | with_reducible assumption | with_reducible refine Mod.alloc ?_ _ | with_reducible refine Mod.drew ?_ | with_reducible refine Mod.drewN ?_ _ | with_reducible refine Mod.setCell ?_ (by first | exact .inl rfl | (left; (try unfold from_); show _ ≤ _; first | omega | (simp; done) | (simp; omega)) | (right; first | omega | (simp; done) | (simp; omega))) _ | with_reducible refine Mod.call0 ?_ (by with_reducible assumption) | with_reducible refine Mod.call ?_ (by with_reducible assumption) (by rintro _ rfl; first | exact .inl rfl | (right; (first | omega | (simp; done) | (simp; omega))))))⟩

set_option maxHeartbeats 1000000 in
theorem reflook_calls (a b c d e p n : Int) (g : Nat) (w : World) (hg : Blk w g 27 #[.int .i64 a, .int .i64 b, .int .i64 c, .int .i64 d, .int .i64 e]) (he : I64 e) :
    Calls Try.prog 19 #[.pointer (some ⟨g, 0, none⟩), .int .i64 p, .int .i64 n] w
     fun en w' => en = .returned (.bool (decide (n < (lookF ⟨a, b, c, d, e⟩ p).looks))) ∧ Blk w' g 27 (lookF ⟨a, b, c, d, e⟩ p).v.cells ∧ Mod (· = g) w w' := by
  obtain ⟨he, _⟩ := he
  have c0 := hg.cell 0
  have c1 := hg.cell 1
  have c2 := hg.cell 2
  have c3 := hg.cell 3
  have c4 := hg.cell 4
  have f0 := hg.frozen 0
  have f1 := hg.frozen 1
  have f2 := hg.frozen 2
  have f3 := hg.frozen 3
  have f4 := hg.frozen 4
  simp only [List.getElem?_toArray, List.getElem?_cons_zero, List.getElem?_cons_succ] at c0 c1 c2 c3 c4
  by_cases hne : d = p
  · have h1 : (p != d) = false := by simp [hne]
    by_cases h2 : e < 1000000
    · have hfin : lookF ⟨a, b, c, d, e⟩ p = ⟨a, b, c, d, e + 1⟩ := by simp [lookF, hne, moreF]; omega
      rw [hfin]
      clear hne hfin
      go_enter Try.func19, Try.ntmps19
      go_wp2_with (go_at_call 34; (with_reducible refine (most_calls _ _ (by omega)).mono ?_); rintro e w' ⟨rfl, rfl⟩)
      go_ret
      exact ⟨rfl, (hg.set_ 4 _).set_ 4 _, (by repeat (first | with_reducible exact Mod.refl _ _ | with_reducible assumption | with_reducible refine Mod.alloc ?_ _ | with_reducible refine Mod.drew ?_ | with_reducible refine Mod.drewN ?_ _ | with_reducible refine Mod.setCell ?_ (by first | exact .inl rfl | (left; (try unfold from_); show _ ≤ _; first | omega | (simp; done) | (simp; omega)) | (right; first | omega | (simp; done) | (simp; omega))) _ | with_reducible refine Mod.call0 ?_ (by with_reducible assumption) | with_reducible refine Mod.call ?_ (by with_reducible assumption) (by rintro _ rfl; first | exact .inl rfl | (right; (first | omega | (simp; done) | (simp; omega))))))⟩
    · have hfin : lookF ⟨a, b, c, d, e⟩ p = ⟨a, b, c, d, 1000000⟩ := by simp [lookF, hne, moreF]; omega
      rw [hfin]
      clear hne hfin
      go_enter Try.func19, Try.ntmps19
      go_wp2_with (go_at_call 34; (with_reducible refine (most_calls2 _ _ (by omega)).mono ?_); rintro e w' ⟨rfl, rfl⟩)
      go_ret
      exact ⟨rfl, (hg.set_ 4 _), (by repeat (first | with_reducible exact Mod.refl _ _ | with_reducible assumption | with_reducible refine Mod.alloc ?_ _ | with_reducible refine Mod.drew ?_ | with_reducible refine Mod.drewN ?_ _ | with_reducible refine Mod.setCell ?_ (by first | exact .inl rfl | (left; (try unfold from_); show _ ≤ _; first | omega | (simp; done) | (simp; omega)) | (right; first | omega | (simp; done) | (simp; omega))) _ | with_reducible refine Mod.call0 ?_ (by with_reducible assumption) | with_reducible refine Mod.call ?_ (by with_reducible assumption) (by rintro _ rfl; first | exact .inl rfl | (right; (first | omega | (simp; done) | (simp; omega))))))⟩
  · have h1 : (p != d) = true := by simp; omega
    have hfin : lookF ⟨a, b, c, d, e⟩ p = ⟨a, b, c, p, 0⟩ := by simp [lookF, hne]
    rw [hfin]
    clear hne hfin
    go_enter Try.func19, Try.ntmps19
    go_wp2
    go_ret
    exact ⟨rfl, (hg.set_ 3 _).set_ 4 _, (by repeat (first | with_reducible exact Mod.refl _ _ | with_reducible assumption | with_reducible refine Mod.alloc ?_ _ | with_reducible refine Mod.drew ?_ | with_reducible refine Mod.drewN ?_ _ | with_reducible refine Mod.setCell ?_ (by first | exact .inl rfl | (left; (try unfold from_); show _ ≤ _; first | omega | (simp; done) | (simp; omega)) | (right; first | omega | (simp; done) | (simp; omega))) _ | with_reducible refine Mod.call0 ?_ (by with_reducible assumption) | with_reducible refine Mod.call ?_ (by with_reducible assumption) (by rintro _ rfl; first | exact .inl rfl | (right; (first | omega | (simp; done) | (simp; omega))))))⟩

set_option maxHeartbeats 1000000 in
theorem steps_calls (n wait : Int) (w : World) :
    Calls Try.prog 26 #[.int .i64 n, .int .i64 wait] w fun en w' => en = .returned (.int .i64 (forF n wait)) ∧ w = w' := by
  go_enter Try.func26, Try.ntmps26
  go_wp2
  all_goals go_ret
  all_goals exact ⟨ret_int (by unfold forF; repeat' split; all_goals omega), rfl⟩

end Go.Proofs.Ytdbheagfnodfmaa
