/- The law FloorMade, walked. -/
import Derived.Test.YtcfpgecchappoaaFloorL
namespace Go.Proofs.Ytcfpgecchappoaa
open Go.RowKit


set_option maxRecDepth 100000 in
set_option maxHeartbeats 8000000 in
theorem made_long (A : Option Addr) (n cap : Nat) (w : World) (c0 c1 c2 c3 c4 c5 : Int) (g0 : 50 < n) :
    Calls Try.prog 6 #[.agg #[.int .i64 c0, .int .i64 c1, .int .i64 c2, .int .i64 c3, .int .i64 c4, .int .i64 c5], .slice A n cap] w
     fun en w' => en = .returned (.bool true) ∧ Mod nowhere w w' := by
  go_enter Try.func6, Try.ntmps6
  go_wp2_with fail
  obtain ⟨W, hW⟩ : ∃ W, W = w.alloc (.cells #[.int .i64 c0, .int .i64 c1, .int .i64 c2, .int .i64 c3, .int .i64 c4, .int .i64 c5] 29) := ⟨_, rfl⟩
  have hb : Blk W w.heap.size 29 #[.int .i64 c0, .int .i64 c1, .int .i64 c2, .int .i64 c3, .int .i64 c4, .int .i64 c5] := by rw [hW]; exact Blk.new _ _ _
  have yW : Mod nowhere w W := by rw [hW]; exact (Mod.refl _ _).alloc _
  rw [← hW]
  clear hW
  (with_reducible refine (alive13_calls _).mono ?_)
  rintro e w1 ⟨rfl, hm1⟩
  have hb1 := hb.keep0 hm1
  have y1 := yW.call0 hm1
  clear hm1 yW hb
  have lW := hb1.lt
  go_wp2
  go_ret
  exact ⟨rfl, (by repeat (first | with_reducible exact Mod.refl _ _ | with_reducible assumption | with_reducible refine Mod.alloc ?_ _ | with_reducible refine Mod.drew ?_ | with_reducible refine Mod.drewN ?_ _ | with_reducible refine Mod.setCell ?_ (by first | exact .inl rfl | (left; (try unfold from_); show _ ≤ _; first | omega | (simp; done) | (simp; omega)) | (right; first | omega | (simp; done) | (simp; omega))) _ | with_reducible refine Mod.call0 ?_ (by with_reducible assumption) | with_reducible refine Mod.call ?_ (by with_reducible assumption) (by first | (rintro _ rfl; first | exact .inl rfl | (right; (first | omega | (simp; done) | (simp; omega)))) | (rintro _ (rfl | rfl) <;> (right; (first | omega | (simp; done) | (simp; omega)))))))⟩
set_option maxRecDepth 100000 in
set_option maxHeartbeats 8000000 in
theorem made_2 (A : Option Addr) (n cap : Nat) (w : World) (c0 c1 c2 c3 c4 c5 : Int) (g0 : ¬ 50 < n) (hC : ¬ CfgOk c0 c1 c2 c3 c4 c5) :
    Calls Try.prog 6 #[.agg #[.int .i64 c0, .int .i64 c1, .int .i64 c2, .int .i64 c3, .int .i64 c4, .int .i64 c5], .slice A n cap] w
     fun en w' => en = .returned (.bool true) ∧ Mod nowhere w w' := by
  have HC := hide hC
  clear hC
  go_enter Try.func6, Try.ntmps6
  go_wp2_with fail
  obtain ⟨W, hW⟩ : ∃ W, W = w.alloc (.cells #[.int .i64 c0, .int .i64 c1, .int .i64 c2, .int .i64 c3, .int .i64 c4, .int .i64 c5] 29) := ⟨_, rfl⟩
  have hb : Blk W w.heap.size 29 #[.int .i64 c0, .int .i64 c1, .int .i64 c2, .int .i64 c3, .int .i64 c4, .int .i64 c5] := by rw [hW]; exact Blk.new _ _ _
  have yW : Mod nowhere w W := by rw [hW]; exact (Mod.refl _ _).alloc _
  rw [← hW]
  clear hW
  (with_reducible refine (alive13_calls _).mono ?_)
  rintro e w1 ⟨rfl, hm1⟩
  have hb1 := hb.keep0 hm1
  have y1 := yW.call0 hm1
  clear hm1 yW hb
  have lW := hb1.lt
  have c_hb1 := hb1.cell; have f_hb1 := hb1.frozen; have l_hb1 := hb1.lt
  go_wp2_with fail
  (with_reducible refine (fnew_2 A n cap c0 c1 c2 c3 c4 c5 _ _ HC.out).mono ?_)
  rintro e w2 ⟨rfl, hm2⟩
  have hb2 := hb1.keep0 hm2
  have y2 := y1.call0 hm2
  clear hm2 y1 hb1 c_hb1 f_hb1 l_hb1
  have c_hb2 := hb2.cell; have f_hb2 := hb2.frozen; have l_hb2 := hb2.lt
  go_wp2_with fail
  (with_reducible refine (rnew_2 A n cap c0 c1 c2 c3 c4 c5 _ HC.out).mono ?_)
  rintro e w3 ⟨rfl, hm3⟩
  have hb3 := hb2.keep0 hm3
  have y3 := y2.call0 hm3
  clear hm3 y2 hb2 c_hb2 f_hb2 l_hb2
  have c_hb3 := hb3.cell; have f_hb3 := hb3.frozen; have l_hb3 := hb3.lt
  go_wp2_with fail
  go_region_held3 (fun w' => w'.cell? ⟨w.heap.size, 0, none⟩ = some (.int .i64 c0) ∧ w'.cell? ⟨w.heap.size, 1, none⟩ = some (.int .i64 c1) ∧ w'.cell? ⟨w.heap.size, 2, none⟩ = some (.int .i64 c2) ∧ w'.cell? ⟨w.heap.size, 3, none⟩ = some (.int .i64 c3) ∧ w'.cell? ⟨w.heap.size, 4, none⟩ = some (.int .i64 c4) ∧ w'.cell? ⟨w.heap.size, 5, none⟩ = some (.int .i64 c5) ∧ Mod nowhere w3 w') ((repeat' apply And.intro) <;> first | (simp [*]; done) | (go_simp; done) | exact (by repeat (first | with_reducible exact Mod.refl _ _ | with_reducible assumption | with_reducible refine Mod.alloc ?_ _ | with_reducible refine Mod.drew ?_ | with_reducible refine Mod.drewN ?_ _ | with_reducible refine Mod.setCell ?_ (by first | exact .inl rfl | (left; (try unfold from_); show _ ≤ _; first | omega | (simp; done) | (simp; omega)) | (right; first | omega | (simp; done) | (simp; omega))) _ | with_reducible refine Mod.call0 ?_ (by with_reducible assumption) | with_reducible refine Mod.call ?_ (by with_reducible assumption) (by first | (rintro _ rfl; first | exact .inl rfl | (right; (first | omega | (simp; done) | (simp; omega)))) | (rintro _ (rfl | rfl) <;> (right; (first | omega | (simp; done) | (simp; omega)))))))) (first
  | (go_at_call 24; (with_reducible refine (check_no c0 c1 c2 c3 c4 c5 _ HC.out).mono ?_); rintro e w5 ⟨rfl, hbw5⟩; have hzw5 := hbw5.size; (try simp at hzw5); (try (have ltw50 : w.heap.size < w5.heap.size := (by omega); have lcw50 := fun o => hbw5.cell (b := w.heap.size) o (by first | omega | (simp; done) | (simp; omega)) (id); have lfw50 := fun o => hbw5.frozen (b := w.heap.size) o (by first | omega | (simp; done) | (simp; omega)) (id))); skip)
  | (go_at_call 25; (with_reducible refine (rcheck_no c0 c1 c2 c3 c4 c5 _ HC.out).mono ?_); rintro e w6 ⟨rfl, hbw6⟩; have hzw6 := hbw6.size; (try simp at hzw6); (try (have ltw60 : w.heap.size < w6.heap.size := (by omega); have lcw60 := fun o => hbw6.cell (b := w.heap.size) o (by first | omega | (simp; done) | (simp; omega)) (id); have lfw60 := fun o => hbw6.frozen (b := w.heap.size) o (by first | omega | (simp; done) | (simp; omega)) (id))); skip))
  all_goals
    go_wp2
    go_ret
    exact ⟨rfl, (by repeat (first | with_reducible exact Mod.refl _ _ | with_reducible assumption | with_reducible refine Mod.alloc ?_ _ | with_reducible refine Mod.drew ?_ | with_reducible refine Mod.drewN ?_ _ | with_reducible refine Mod.setCell ?_ (by first | exact .inl rfl | (left; (try unfold from_); show _ ≤ _; first | omega | (simp; done) | (simp; omega)) | (right; first | omega | (simp; done) | (simp; omega))) _ | with_reducible refine Mod.call0 ?_ (by with_reducible assumption) | with_reducible refine Mod.call ?_ (by with_reducible assumption) (by first | (rintro _ rfl; first | exact .inl rfl | (right; (first | omega | (simp; done) | (simp; omega)))) | (rintro _ (rfl | rfl) <;> (right; (first | omega | (simp; done) | (simp; omega)))))))⟩
set_option maxRecDepth 100000 in
set_option maxHeartbeats 8000000 in
theorem made_3 (A : Option Addr) (n cap : Nat) (w : World) (c0 c1 c2 c3 c4 c5 : Int) (g0 : ¬ 50 < n) (hC : CfgOk c0 c1 c2 c3 c4 c5) (hN : ¬ (n : Int) = c0) :
    Calls Try.prog 6 #[.agg #[.int .i64 c0, .int .i64 c1, .int .i64 c2, .int .i64 c3, .int .i64 c4, .int .i64 c5], .slice A n cap] w
     fun en w' => en = .returned (.bool true) ∧ Mod nowhere w w' := by
  have HC := hide hC
  have HN := hide hN
  clear hC hN
  go_enter Try.func6, Try.ntmps6
  go_wp2_with fail
  obtain ⟨W, hW⟩ : ∃ W, W = w.alloc (.cells #[.int .i64 c0, .int .i64 c1, .int .i64 c2, .int .i64 c3, .int .i64 c4, .int .i64 c5] 29) := ⟨_, rfl⟩
  have hb : Blk W w.heap.size 29 #[.int .i64 c0, .int .i64 c1, .int .i64 c2, .int .i64 c3, .int .i64 c4, .int .i64 c5] := by rw [hW]; exact Blk.new _ _ _
  have yW : Mod nowhere w W := by rw [hW]; exact (Mod.refl _ _).alloc _
  rw [← hW]
  clear hW
  (with_reducible refine (alive13_calls _).mono ?_)
  rintro e w1 ⟨rfl, hm1⟩
  have hb1 := hb.keep0 hm1
  have y1 := yW.call0 hm1
  clear hm1 yW hb
  have lW := hb1.lt
  have c_hb1 := hb1.cell; have f_hb1 := hb1.frozen; have l_hb1 := hb1.lt
  go_wp2_with fail
  (with_reducible refine (fnew_3 A n cap c0 c1 c2 c3 c4 c5 _ _ HC.out HN.out).mono ?_)
  rintro e w2 ⟨rfl, hm2⟩
  have hb2 := hb1.keep0 hm2
  have y2 := y1.call0 hm2
  clear hm2 y1 hb1 c_hb1 f_hb1 l_hb1
  have c_hb2 := hb2.cell; have f_hb2 := hb2.frozen; have l_hb2 := hb2.lt
  go_wp2_with fail
  (with_reducible refine (rnew_3 A n cap c0 c1 c2 c3 c4 c5 _ HC.out HN.out).mono ?_)
  rintro e w3 ⟨rfl, hm3⟩
  have hb3 := hb2.keep0 hm3
  have y3 := y2.call0 hm3
  clear hm3 y2 hb2 c_hb2 f_hb2 l_hb2
  have c_hb3 := hb3.cell; have f_hb3 := hb3.frozen; have l_hb3 := hb3.lt
  go_wp2_with fail
  go_region_held3 (fun w' => w'.cell? ⟨w.heap.size, 0, none⟩ = some (.int .i64 c0) ∧ w'.cell? ⟨w.heap.size, 1, none⟩ = some (.int .i64 c1) ∧ w'.cell? ⟨w.heap.size, 2, none⟩ = some (.int .i64 c2) ∧ w'.cell? ⟨w.heap.size, 3, none⟩ = some (.int .i64 c3) ∧ w'.cell? ⟨w.heap.size, 4, none⟩ = some (.int .i64 c4) ∧ w'.cell? ⟨w.heap.size, 5, none⟩ = some (.int .i64 c5) ∧ Mod nowhere w3 w') ((repeat' apply And.intro) <;> first | (simp [*]; done) | (go_simp; done) | exact (by repeat (first | with_reducible exact Mod.refl _ _ | with_reducible assumption | with_reducible refine Mod.alloc ?_ _ | with_reducible refine Mod.drew ?_ | with_reducible refine Mod.drewN ?_ _ | with_reducible refine Mod.setCell ?_ (by first | exact .inl rfl | (left; (try unfold from_); show _ ≤ _; first | omega | (simp; done) | (simp; omega)) | (right; first | omega | (simp; done) | (simp; omega))) _ | with_reducible refine Mod.call0 ?_ (by with_reducible assumption) | with_reducible refine Mod.call ?_ (by with_reducible assumption) (by first | (rintro _ rfl; first | exact .inl rfl | (right; (first | omega | (simp; done) | (simp; omega)))) | (rintro _ (rfl | rfl) <;> (right; (first | omega | (simp; done) | (simp; omega)))))))) (first
  | (go_at_call 24; (with_reducible refine (check_yes c0 c1 c2 c3 c4 c5 _ HC.out).mono ?_); rintro e w5 ⟨rfl, hbw5⟩; have hzw5 := hbw5.size; (try simp at hzw5); (try (have ltw50 : w.heap.size < w5.heap.size := (by omega); have lcw50 := fun o => hbw5.cell (b := w.heap.size) o (by first | omega | (simp; done) | (simp; omega)) (id); have lfw50 := fun o => hbw5.frozen (b := w.heap.size) o (by first | omega | (simp; done) | (simp; omega)) (id))); skip)
  | (go_at_call 25; (with_reducible refine (rcheck_yes c0 c1 c2 c3 c4 c5 _ HC.out).mono ?_); rintro e w6 ⟨rfl, hbw6⟩; have hzw6 := hbw6.size; (try simp at hzw6); (try (have ltw60 : w.heap.size < w6.heap.size := (by omega); have lcw60 := fun o => hbw6.cell (b := w.heap.size) o (by first | omega | (simp; done) | (simp; omega)) (id); have lfw60 := fun o => hbw6.frozen (b := w.heap.size) o (by first | omega | (simp; done) | (simp; omega)) (id))); skip))
  all_goals
    go_wp2
    go_ret
    exact ⟨rfl, (by repeat (first | with_reducible exact Mod.refl _ _ | with_reducible assumption | with_reducible refine Mod.alloc ?_ _ | with_reducible refine Mod.drew ?_ | with_reducible refine Mod.drewN ?_ _ | with_reducible refine Mod.setCell ?_ (by first | exact .inl rfl | (left; (try unfold from_); show _ ≤ _; first | omega | (simp; done) | (simp; omega)) | (right; first | omega | (simp; done) | (simp; omega))) _ | with_reducible refine Mod.call0 ?_ (by with_reducible assumption) | with_reducible refine Mod.call ?_ (by with_reducible assumption) (by first | (rintro _ rfl; first | exact .inl rfl | (right; (first | omega | (simp; done) | (simp; omega)))) | (rintro _ (rfl | rfl) <;> (right; (first | omega | (simp; done) | (simp; omega)))))))⟩
theorem fnew_4Z (A : Option Addr) (n cap : Nat) (c0 c1 c2 c3 c4 c5 : Int) (w : World) (hc : CfgOk c0 c1 c2 c3 c4 c5) (hn : (n : Int) = c0) (h2 : c2 < 2 * (n : Int)) :
    Calls Try.prog 9 #[.agg #[.int .i64 c0, .int .i64 c1, .int .i64 c2, .int .i64 c3, .int .i64 c4, .int .i64 c5], .slice A n cap, .slice none 0 0] w fun e w' => e = .returned (.tuple #[.pointer none, .int .i64 4]) ∧ Mod nowhere w w' := by
  subst hn
  obtain ⟨k1, rfl⟩ : ∃ k1 : Nat, c1 = k1 := ⟨c1.toNat, by have := hc.2.1; omega⟩
  obtain ⟨T, hT⟩ := mgrT_some hc.2.2.2.2.1
  exact fnew_4 [] A cap n none 0 0 k1 T c2 c3 c4 c5 w hT hc h2 Reads.none_ rfl (by omega)
set_option maxRecDepth 100000 in
set_option maxHeartbeats 8000000 in
theorem made_4 (A : Option Addr) (n cap : Nat) (w : World) (c0 c1 c2 c3 c4 c5 : Int) (g0 : ¬ 50 < n) (hC : CfgOk c0 c1 c2 c3 c4 c5) (hN : (n : Int) = c0) (hK : c2 < 2 * (n : Int)) :
    Calls Try.prog 6 #[.agg #[.int .i64 c0, .int .i64 c1, .int .i64 c2, .int .i64 c3, .int .i64 c4, .int .i64 c5], .slice A n cap] w
     fun en w' => en = .returned (.bool true) ∧ Mod nowhere w w' := by
  have HC := hide hC
  have HN := hide hN
  have HK := hide hK
  clear hC hN hK
  go_enter Try.func6, Try.ntmps6
  go_wp2_with fail
  obtain ⟨W, hW⟩ : ∃ W, W = w.alloc (.cells #[.int .i64 c0, .int .i64 c1, .int .i64 c2, .int .i64 c3, .int .i64 c4, .int .i64 c5] 29) := ⟨_, rfl⟩
  have hb : Blk W w.heap.size 29 #[.int .i64 c0, .int .i64 c1, .int .i64 c2, .int .i64 c3, .int .i64 c4, .int .i64 c5] := by rw [hW]; exact Blk.new _ _ _
  have yW : Mod nowhere w W := by rw [hW]; exact (Mod.refl _ _).alloc _
  rw [← hW]
  clear hW
  (with_reducible refine (alive13_calls _).mono ?_)
  rintro e w1 ⟨rfl, hm1⟩
  have hb1 := hb.keep0 hm1
  have y1 := yW.call0 hm1
  clear hm1 yW hb
  have lW := hb1.lt
  have c_hb1 := hb1.cell; have f_hb1 := hb1.frozen; have l_hb1 := hb1.lt
  go_wp2_with fail
  (with_reducible refine (fnew_4Z A n cap c0 c1 c2 c3 c4 c5 _ HC.out HN.out HK.out).mono ?_)
  rintro e w2 ⟨rfl, hm2⟩
  have hb2 := hb1.keep0 hm2
  have y2 := y1.call0 hm2
  clear hm2 y1 hb1 c_hb1 f_hb1 l_hb1
  have c_hb2 := hb2.cell; have f_hb2 := hb2.frozen; have l_hb2 := hb2.lt
  go_wp2_with fail
  (with_reducible refine (rnew_4 A n cap c0 c1 c2 c3 c4 c5 _ HC.out HN.out (by omega) HK.out).mono ?_)
  rintro e w3 ⟨rfl, hm3⟩
  have hb3 := hb2.keep0 hm3
  have y3 := y2.call0 hm3
  clear hm3 y2 hb2 c_hb2 f_hb2 l_hb2
  have c_hb3 := hb3.cell; have f_hb3 := hb3.frozen; have l_hb3 := hb3.lt
  go_wp2_with fail
  go_region_held3 (fun w' => w'.cell? ⟨w.heap.size, 0, none⟩ = some (.int .i64 c0) ∧ w'.cell? ⟨w.heap.size, 1, none⟩ = some (.int .i64 c1) ∧ w'.cell? ⟨w.heap.size, 2, none⟩ = some (.int .i64 c2) ∧ w'.cell? ⟨w.heap.size, 3, none⟩ = some (.int .i64 c3) ∧ w'.cell? ⟨w.heap.size, 4, none⟩ = some (.int .i64 c4) ∧ w'.cell? ⟨w.heap.size, 5, none⟩ = some (.int .i64 c5) ∧ Mod nowhere w3 w') ((repeat' apply And.intro) <;> first | (simp [*]; done) | (go_simp; done) | exact (by repeat (first | with_reducible exact Mod.refl _ _ | with_reducible assumption | with_reducible refine Mod.alloc ?_ _ | with_reducible refine Mod.drew ?_ | with_reducible refine Mod.drewN ?_ _ | with_reducible refine Mod.setCell ?_ (by first | exact .inl rfl | (left; (try unfold from_); show _ ≤ _; first | omega | (simp; done) | (simp; omega)) | (right; first | omega | (simp; done) | (simp; omega))) _ | with_reducible refine Mod.call0 ?_ (by with_reducible assumption) | with_reducible refine Mod.call ?_ (by with_reducible assumption) (by first | (rintro _ rfl; first | exact .inl rfl | (right; (first | omega | (simp; done) | (simp; omega)))) | (rintro _ (rfl | rfl) <;> (right; (first | omega | (simp; done) | (simp; omega)))))))) (first
  | (go_at_call 24; (with_reducible refine (check_yes c0 c1 c2 c3 c4 c5 _ HC.out).mono ?_); rintro e w5 ⟨rfl, hbw5⟩; have hzw5 := hbw5.size; (try simp at hzw5); (try (have ltw50 : w.heap.size < w5.heap.size := (by omega); have lcw50 := fun o => hbw5.cell (b := w.heap.size) o (by first | omega | (simp; done) | (simp; omega)) (id); have lfw50 := fun o => hbw5.frozen (b := w.heap.size) o (by first | omega | (simp; done) | (simp; omega)) (id))); skip)
  | (go_at_call 25; (with_reducible refine (rcheck_yes c0 c1 c2 c3 c4 c5 _ HC.out).mono ?_); rintro e w6 ⟨rfl, hbw6⟩; have hzw6 := hbw6.size; (try simp at hzw6); (try (have ltw60 : w.heap.size < w6.heap.size := (by omega); have lcw60 := fun o => hbw6.cell (b := w.heap.size) o (by first | omega | (simp; done) | (simp; omega)) (id); have lfw60 := fun o => hbw6.frozen (b := w.heap.size) o (by first | omega | (simp; done) | (simp; omega)) (id))); skip))
  all_goals
    go_wp2
    go_ret
    exact ⟨rfl, (by repeat (first | with_reducible exact Mod.refl _ _ | with_reducible assumption | with_reducible refine Mod.alloc ?_ _ | with_reducible refine Mod.drew ?_ | with_reducible refine Mod.drewN ?_ _ | with_reducible refine Mod.setCell ?_ (by first | exact .inl rfl | (left; (try unfold from_); show _ ≤ _; first | omega | (simp; done) | (simp; omega)) | (right; first | omega | (simp; done) | (simp; omega))) _ | with_reducible refine Mod.call0 ?_ (by with_reducible assumption) | with_reducible refine Mod.call ?_ (by with_reducible assumption) (by first | (rintro _ rfl; first | exact .inl rfl | (right; (first | omega | (simp; done) | (simp; omega)))) | (rintro _ (rfl | rfl) <;> (right; (first | omega | (simp; done) | (simp; omega)))))))⟩
end Go.Proofs.Ytcfpgecchappoaa
