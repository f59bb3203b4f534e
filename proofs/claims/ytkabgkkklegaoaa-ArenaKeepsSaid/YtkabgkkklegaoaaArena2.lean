/- The document's example of layer 2, run; no arena. -/
import Derived.Test.YtkabgkkklegaoaaArenaint
import Derived.Test.YtkabgkkklegaoaaArenastr
namespace Go.Proofs.Ytkabgkkklegaoaa
open Go.RowKit

set_option maxHeartbeats 1000000 in
theorem alive2_calls (w : World) :
    Calls Try.prog 19 #[] w fun en w' => en = .returned (.bool true) ∧ Mod nowhere w w' := by
  have h0 := Arn.new w 87 9 1 1
  go_enter Try.func19, Try.ntmps19
  go_wp2_with (go_at_call 35; (with_reducible refine (anew_str 1 _ (by omega) (by omega)).mono ?_); rintro e w' ⟨rfl, rfl⟩)
  (with_reducible refine (aput_str _ _ _ 0 1 [] _ h0 (by decide) (by decide)).mono ?_)
  rintro e w1 ⟨rfl, ⟨r1, hr1, hn1, h1⟩, hm1⟩
  go_wp2_with fail
  (with_reducible refine (aput_full_str _ _ _ 1 1 _ _ h1 (by decide)).mono ?_)
  rintro e w2 ⟨rfl, hm2⟩
  have h2 := h1.keep0 hm2
  go_wp2_with fail
  (with_reducible refine (aat_str ⟨#[97]⟩ _ _ 1 1 _ 0 0 (by decide) _ h2 (by decide) (by decide) (by simp)).mono ?_)
  rintro e w3 ⟨rfl, hm3⟩
  go_wp2
  go_ret
  have hm1' : Mod nowhere w w1 := ((Mod.refl _ _).alloc _).call hm1 (by rintro i (rfl | rfl) <;> exact .inr (Nat.le_refl _))
  exact ⟨rfl, (by repeat (first | with_reducible exact Mod.refl _ _ | with_reducible assumption | with_reducible refine Mod.alloc ?_ _ | with_reducible refine Mod.drew ?_ | with_reducible refine Mod.drewN ?_ _ | with_reducible refine Mod.setCell ?_ (by first | exact .inl rfl | (left; (try unfold from_); show _ ≤ _; first | omega | (simp; done) | (simp; omega)) | (right; first | omega | (simp; done) | (simp; omega))) _ | with_reducible refine Mod.call0 ?_ (by with_reducible assumption) | with_reducible refine Mod.call ?_ (by with_reducible assumption) (by first | (rintro _ rfl; first | exact .inl rfl | (right; (first | omega | (simp; done) | (simp; omega)))) | (rintro _ (rfl | rfl) <;> (right; (first | omega | (simp; done) | (simp; omega)))))))⟩

set_option maxHeartbeats 1000000 in
theorem law_arenaNone (v i : Int) (w : World) :
    Calls Try.prog 8 #[.int .i64 v, .int .i64 i] w fun en w' => en = .returned (.bool true) ∧ Mod nowhere w w' := by
  go_enter Try.func8, Try.ntmps8
  go_wp2_with fail
  (with_reducible refine (alive2_calls _).mono ?_)
  rintro e w1 ⟨rfl, hbw1⟩
  have hzw1 := hbw1.size
  (try simp at hzw1)
  skip
  skip
  go_wp2_with fail
  (with_reducible refine (aput_nil_int _ _).mono ?_)
  rintro e w2 ⟨rfl, hbw2⟩
  have hzw2 := hbw2.size
  (try simp at hzw2)
  skip
  skip
  go_wp2_with fail
  (with_reducible refine (aat_nil_int _ _).mono ?_)
  rintro e w3 ⟨rfl, hbw3⟩
  have hzw3 := hbw3.size
  (try simp at hzw3)
  skip
  skip
  go_wp2_with (go_at_call 27; (with_reducible refine (alen_nil_int _).mono ?_); rintro e w' ⟨rfl, rfl⟩)
  (with_reducible refine (aleft_nil_int _).mono ?_)
  rintro e w4 ⟨rfl, hbw4⟩
  have hzw4 := hbw4.size
  (try simp at hzw4)
  skip
  skip
  go_wp2
  go_ret
  exact ⟨rfl, (by repeat (first | with_reducible exact Mod.refl _ _ | with_reducible assumption | with_reducible refine Mod.alloc ?_ _ | with_reducible refine Mod.drew ?_ | with_reducible refine Mod.drewN ?_ _ | with_reducible refine Mod.setCell ?_ (by first | exact .inl rfl | (left; (try unfold from_); show _ ≤ _; first | omega | (simp; done) | (simp; omega)) | (right; first | omega | (simp; done) | (simp; omega))) _ | with_reducible refine Mod.call0 ?_ (by with_reducible assumption) | with_reducible refine Mod.call ?_ (by with_reducible assumption) (by first | (rintro _ rfl; first | exact .inl rfl | (right; (first | omega | (simp; done) | (simp; omega)))) | (rintro _ (rfl | rfl) <;> (right; (first | omega | (simp; done) | (simp; omega)))))))⟩
end Go.Proofs.Ytkabgkkklegaoaa
