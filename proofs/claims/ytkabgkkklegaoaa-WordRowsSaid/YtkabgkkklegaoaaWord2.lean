/- What words do, case by case; the document's example of layer 1, run. -/
import Derived.Test.YtkabgkkklegaoaaTick
namespace Go.Proofs.Ytkabgkkklegaoaa
open Go.RowKit

theorem wrap_one (acc : Int) (h0 : 0 ≤ acc) (h1 : acc ≤ 1000000) : wrap64 (acc + 1) = acc + 1 := by unfold wrap64; omega

theorem load_ok (g : Nat) (n acc : Int) (w : World) (h : IsWord w g n acc) (h0 : 0 ≤ acc) (h1 : acc ≤ 1000000) :
    Calls Try.prog 15 #[.pointer (some ⟨g, 0, none⟩)] w
      fun e w' => e = .returned (.int .i64 n) ∧ IsWord w' g n (acc + 1) ∧ Mod (· = g) w w' := by
  have := load_calls g n acc w h
  rwa [wrap_one acc h0 h1] at this
theorem swap_yes (g : Nat) (n acc new : Int) (w : World) (h : IsWord w g n acc) (h0 : 0 ≤ acc) (h1 : acc ≤ 1000000) :
    Calls Try.prog 16 #[.pointer (some ⟨g, 0, none⟩), .int .i64 n, .int .i64 new] w
      fun e w' => e = .returned (.bool true) ∧ IsWord w' g new (acc + 1) ∧ Mod (· = g) w w' := by
  have := swap_calls g n acc n new w h
  rwa [wrap_one acc h0 h1, if_pos rfl, show (n == n) = true from beq_iff_eq.2 rfl] at this
theorem swap_no (g : Nat) (n acc old new : Int) (w : World) (h : IsWord w g n acc) (h0 : 0 ≤ acc) (h1 : acc ≤ 1000000) (hn : ¬ n = old) :
    Calls Try.prog 16 #[.pointer (some ⟨g, 0, none⟩), .int .i64 old, .int .i64 new] w
      fun e w' => e = .returned (.bool false) ∧ IsWord w' g n (acc + 1) ∧ Mod (· = g) w w' := by
  have := swap_calls g n acc old new w h
  rwa [wrap_one acc h0 h1, if_neg hn, show (n == old) = false from beq_eq_false_iff_ne.2 hn] at this

set_option maxHeartbeats 400000 in
theorem alive1_calls (w : World) :
    Calls Try.prog 13 #[] w fun en w' => en = .returned (.bool true) ∧ Mod nowhere w w' := by
  go_enter Try.func13, Try.ntmps13
  go_wp2_with (go_at_call 14; (with_reducible refine (of_calls _ _).mono ?_); rintro e w' ⟨rfl, rfl⟩)
  (with_reducible refine (swap_yes _ 3 0 4 _ (by exact Blk.new _ _ _) (by omega) (by omega)).mono ?_)
  rintro e w1 ⟨rfl, hkw1, hbw1⟩
  have hzw1 := hbw1.size
  (try simp at hzw1)
  have ckw1 := hkw1.cell; have fkw1 := hkw1.frozen; have lkw1 := hkw1.lt
  skip
  skip
  go_wp2_with fail
  (with_reducible refine (swap_no _ 4 (0 + 1) 3 5 _ hkw1 (by omega) (by omega) (by omega)).mono ?_)
  rintro e w2 ⟨rfl, hkw2, hbw2⟩
  have hzw2 := hbw2.size
  (try simp at hzw2)
  have ckw2 := hkw2.cell; have fkw2 := hkw2.frozen; have lkw2 := hkw2.lt
  skip
  skip
  go_wp2_with fail
  (with_reducible refine (load_ok _ 4 (0 + 1 + 1) _ hkw2 (by omega) (by omega)).mono ?_)
  rintro e w3 ⟨rfl, hkw3, hbw3⟩
  have hzw3 := hbw3.size
  (try simp at hzw3)
  have ckw3 := hkw3.cell; have fkw3 := hkw3.frozen; have lkw3 := hkw3.lt
  skip
  skip
  go_wp2_with (go_at_call 18; (with_reducible refine (accesses_calls _ _ _ _ hkw3).mono ?_); rintro e w' ⟨rfl, rfl⟩)
  go_ret
  exact ⟨rfl, (by repeat (first | with_reducible exact Mod.refl _ _ | with_reducible assumption | with_reducible refine Mod.alloc ?_ _ | with_reducible refine Mod.drew ?_ | with_reducible refine Mod.drewN ?_ _ | with_reducible refine Mod.setCell ?_ (by first | exact .inl rfl | (left; (try unfold from_); show _ ≤ _; first | omega | (simp; done) | (simp; omega)) | (right; first | omega | (simp; done) | (simp; omega))) _ | with_reducible refine Mod.call0 ?_ (by with_reducible assumption) | with_reducible refine Mod.call ?_ (by with_reducible assumption) (by rintro _ rfl; first | exact .inl rfl | (right; (first | omega | (simp; done) | (simp; omega))))))⟩

set_option maxHeartbeats 400000 in
theorem law_wordNone (old new : Int) (w : World) :
    Calls Try.prog 10 #[.int .i64 old, .int .i64 new] w fun en w' => en = .returned (.bool true) ∧ Mod nowhere w w' := by
  go_enter Try.func10, Try.ntmps10
  go_wp2_with fail
  (with_reducible refine (alive1_calls _).mono ?_)
  rintro e w1 ⟨rfl, hbw1⟩
  have hzw1 := hbw1.size
  (try simp at hzw1)
  skip
  skip
  go_wp2_with fail
  (with_reducible refine (take_nil _).mono ?_)
  rintro e w2 ⟨rfl, hbw2⟩
  have hzw2 := hbw2.size
  (try simp at hzw2)
  skip
  skip
  go_wp2_with fail
  (with_reducible refine (load_nil _).mono ?_)
  rintro e w3 ⟨rfl, hbw3⟩
  have hzw3 := hbw3.size
  (try simp at hzw3)
  skip
  skip
  go_wp2_with fail
  (with_reducible refine (swap_nil _ _ _).mono ?_)
  rintro e w4 ⟨rfl, hbw4⟩
  have hzw4 := hbw4.size
  (try simp at hzw4)
  skip
  skip
  go_wp2_with (go_at_call 18; (with_reducible refine (accesses_nil _).mono ?_); rintro e w' ⟨rfl, rfl⟩)
  go_wp2_with (go_at_call 30; (with_reducible refine (taken_nil _).mono ?_); rintro e w' ⟨rfl, rfl⟩)
  go_ret
  exact ⟨rfl, (by repeat (first | with_reducible exact Mod.refl _ _ | with_reducible assumption | with_reducible refine Mod.alloc ?_ _ | with_reducible refine Mod.drew ?_ | with_reducible refine Mod.drewN ?_ _ | with_reducible refine Mod.setCell ?_ (by first | exact .inl rfl | (left; (try unfold from_); show _ ≤ _; first | omega | (simp; done) | (simp; omega)) | (right; first | omega | (simp; done) | (simp; omega))) _ | with_reducible refine Mod.call0 ?_ (by with_reducible assumption) | with_reducible refine Mod.call ?_ (by with_reducible assumption) (by rintro _ rfl; first | exact .inl rfl | (right; (first | omega | (simp; done) | (simp; omega))))))⟩
end Go.Proofs.Ytkabgkkklegaoaa
