/- The document's example of layer 10, run; no gate. -/
import Derived.Test.YtiklhnngkebkeaaGateW
import Derived.Laws.StructEq
import Derived.Outline
namespace Go.Proofs.Ytiklhnngkebkeaa
open Go.RowKit

theorem fld_sight (a b c d : Value) (w : World) : (Instr.field 25 (.agg #[a, b, c, d]) 0).run Try.prog w = .ok a w ∧ (Instr.field 25 (.agg #[a, b, c, d]) 1).run Try.prog w = .ok b w ∧ (Instr.field 25 (.agg #[a, b, c, d]) 2).run Try.prog w = .ok c w :=
  ⟨by kernel_rfl, by kernel_rfl, by kernel_rfl⟩
set_option maxHeartbeats 2000000 in
theorem alive10_calls (w : World) :
    Calls Try.prog 9 #[] w fun en w' => en = .returned (.bool true) ∧ Mod nowhere w w' := by
  have hf0 := fun a b c d w => (fld_sight a b c d w).1
  have hf1 := fun a b c d w => (fld_sight a b c d w).2.1
  have hf2 := fun a b c d w => (fld_sight a b c d w).2.2
  have i0 : I64 0 := by unfold I64; omega
  go_enter Try.func9, Try.ntmps9
  go_wp2_with fail
  (with_reducible refine (gnew_2 _).mono ?_)
  rintro e w1 ⟨g, gw, gp, rfl, h1, b1, b2, b3, m1⟩
  go_wp2_with fail
  (with_reducible refine (see_none g gw gp 2 _ w1 h1).mono ?_)
  rintro e w2 ⟨rfl, h2, m2⟩
  have z2 := m2.size
  go_wp2_with fail
  (with_reducible refine (see_none g gw gp 2 _ w2 h2).mono ?_)
  rintro e w3 ⟨rfl, h3, m3⟩
  have z3 := m3.size
  go_wp2_with fail
  (with_reducible refine (gswap_none_yes 0 0 0 5 1 g gw gp 2 0 _ w3 h3 (by decide) (by decide) (by decide) (by decide) (by decide) rfl).mono ?_)
  rintro e w4 ⟨rfl, h4, m4⟩
  have z4 := m4.size
  go_wp2_with fail
  (with_reducible refine (see_some g gw gp 2 5 1 0 _ w4 h4 (by decide) (by decide) (by decide) (by decide) (by decide)).mono ?_)
  rintro e w5 ⟨rfl, h5, m5⟩
  have z5 := m5.size
  go_wp2_with fail
  (with_reducible refine (see_some g gw gp 2 5 1 0 _ w5 h5 (by decide) (by decide) (by decide) (by decide) (by decide)).mono ?_)
  rintro e w6 ⟨rfl, h6, m6⟩
  have z6 := m6.size
  go_wp2_with fail
  (with_reducible refine (fresh_calls _).mono ?_)
  rintro e w7 ⟨rfl, m7⟩
  have h7 := h6.keep0 m7
  have z7 := m7.size
  go_wp2_with fail
  (with_reducible refine (see_some g gw gp 2 5 1 0 _ w7 h7 (by decide) (by decide) (by decide) (by decide) (by decide)).mono ?_)
  rintro e w8 ⟨rfl, h8, m8⟩
  have z8 := m8.size
  go_wp2_with fail
  (with_reducible refine (what_look _ _ _ _ _ _ _ _ _ _ _ _ (by decide) i0 5 1 0 0 0 (by simp [metF]) i0 5 1 0 0 1 (by simp [lookF, moreF])).mono ?_)
  rintro e w9 ⟨rfl, m9⟩
  have z9 := m9.size
  have h9 := h8.keep0 m9
  have hg : goOrStay 9 1 = 3 := by decide
  go_wp2_with fail
  (with_reducible refine (fresh_calls _).mono ?_)
  rintro e w10 ⟨rfl, m10⟩
  have z10 := m10.size
  (try simp at z10)
  have h10 := (h9.alloc (.cells #[.int .i64 5, .int .i64 1, .int .i64 0, .int .i64 0, .int .i64 1] 23)).keep0 m10
  go_wp2_with fail
  (with_reducible refine (see_some g gw gp 2 5 1 0 _ w10 h10 (by decide) (by decide) (by decide) (by decide) (by decide)).mono ?_)
  rintro e w11 ⟨rfl, h11, m11⟩
  have z11 := m11.size
  go_wp2_with fail
  (with_reducible refine (what_claim _ _ _ _ _ _ _ _ _ _ _ _ (.inr (by decide))).mono ?_)
  rintro e w12 ⟨rfl, m12⟩
  go_wp2
  go_ret
  exact ⟨rfl, (by repeat (first | with_reducible exact Mod.refl _ _ | with_reducible assumption | with_reducible refine Mod.alloc ?_ _ | with_reducible refine Mod.drew ?_ | with_reducible refine Mod.drewN ?_ _ | with_reducible refine Mod.setCell ?_ (by first | exact .inl rfl | (left; (try unfold from_); show _ ≤ _; first | omega | (simp; done) | (simp; omega)) | (right; first | omega | (simp; done) | (simp; omega))) _ | with_reducible refine Mod.call0 ?_ (by with_reducible assumption) | with_reducible refine Mod.call ?_ (by with_reducible assumption) (by first | (rintro _ rfl; first | exact .inl rfl | (right; (first | omega | (simp; done) | (simp; omega)))) | (rintro _ (rfl | rfl) <;> (right; (first | omega | (simp; done) | (simp; omega)))))))⟩

set_option maxHeartbeats 1000000 in
theorem law_gateNone (b : Bool) (xs xt xp stamp thread : Int) (w : World) :
    Calls Try.prog 7 #[sightV b xs xt xp, .int .i64 stamp, .int .i64 thread] w fun en w' => en = .returned (.bool true) ∧ Mod nowhere w w' := by
  go_enter Try.func7, Try.ntmps7
  go_wp2_with fail
  (with_reducible refine (alive10_calls _).mono ?_)
  rintro e w1 ⟨rfl, hbw1⟩
  have hzw1 := hbw1.size
  (try simp at hzw1)
  (try (have ltw10 : w.heap.size < w1.heap.size := (by omega); have lcw10 := fun o => hbw1.cell (b := w.heap.size) o (by first | omega | (simp; done) | (simp; omega)) (id); have lfw10 := fun o => hbw1.frozen (b := w.heap.size) o (by first | omega | (simp; done) | (simp; omega)) (id)))
  skip
  go_wp2_with fail
  (with_reducible refine (see_nil _).mono ?_)
  rintro e w2 ⟨rfl, hbw2⟩
  have hzw2 := hbw2.size
  (try simp at hzw2)
  (try (have ltw20 : w.heap.size < w2.heap.size := (by omega); have lcw20 := fun o => hbw2.cell (b := w.heap.size) o (by first | omega | (simp; done) | (simp; omega)) (id); have lfw20 := fun o => hbw2.frozen (b := w.heap.size) o (by first | omega | (simp; done) | (simp; omega)) (id)))
  skip
  go_wp2_with fail
  (with_reducible refine (gswap_nil _ _ _ _ _ _ _).mono ?_)
  rintro e w3 ⟨rfl, hbw3⟩
  have hzw3 := hbw3.size
  (try simp at hzw3)
  (try (have ltw30 : w.heap.size < w3.heap.size := (by omega); have lcw30 := fun o => hbw3.cell (b := w.heap.size) o (by first | omega | (simp; done) | (simp; omega)) (id); have lfw30 := fun o => hbw3.frozen (b := w.heap.size) o (by first | omega | (simp; done) | (simp; omega)) (id)))
  skip
  go_wp2_with fail
  (with_reducible refine (gleave_nil _ _ _).mono ?_)
  rintro e w4 ⟨rfl, hbw4⟩
  have hzw4 := hbw4.size
  (try simp at hzw4)
  (try (have ltw40 : w.heap.size < w4.heap.size := (by omega); have lcw40 := fun o => hbw4.cell (b := w.heap.size) o (by first | omega | (simp; done) | (simp; omega)) (id); have lfw40 := fun o => hbw4.frozen (b := w.heap.size) o (by first | omega | (simp; done) | (simp; omega)) (id)))
  skip
  go_wp2_with fail
  (with_reducible refine (beat_nil _ _).mono ?_)
  rintro e w5 ⟨rfl, hbw5⟩
  have hzw5 := hbw5.size
  (try simp at hzw5)
  (try (have ltw50 : w.heap.size < w5.heap.size := (by omega); have lcw50 := fun o => hbw5.cell (b := w.heap.size) o (by first | omega | (simp; done) | (simp; omega)) (id); have lfw50 := fun o => hbw5.frozen (b := w.heap.size) o (by first | omega | (simp; done) | (simp; omega)) (id)))
  skip
  go_wp2_with (go_at_call 22; (with_reducible refine (pulse_nil _ _).mono ?_); rintro e w' ⟨rfl, rfl⟩)
  go_ret
  exact ⟨rfl, (by repeat (first | with_reducible exact Mod.refl _ _ | with_reducible assumption | with_reducible refine Mod.alloc ?_ _ | with_reducible refine Mod.drew ?_ | with_reducible refine Mod.drewN ?_ _ | with_reducible refine Mod.setCell ?_ (by first | exact .inl rfl | (left; (try unfold from_); show _ ≤ _; first | omega | (simp; done) | (simp; omega)) | (right; first | omega | (simp; done) | (simp; omega))) _ | with_reducible refine Mod.call0 ?_ (by with_reducible assumption) | with_reducible refine Mod.call ?_ (by with_reducible assumption) (by first | (rintro _ rfl; first | exact .inl rfl | (right; (first | omega | (simp; done) | (simp; omega)))) | (rintro _ (rfl | rfl) <;> (right; (first | omega | (simp; done) | (simp; omega)))))))⟩
end Go.Proofs.Ytiklhnngkebkeaa
