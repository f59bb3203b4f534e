/- What the functions of package cells do: Version, Build, Resolve, Objects, Load, Swap. -/
import Derived.Test.YtanmibdnnjfpbaaCells
namespace Go.Proofs.Ytanmibdnnjfpbaa
open Go.RowKit

set_option maxRecDepth 100000 in
set_option maxHeartbeats 2000000 in
theorem ver_ok (v : Int) (c a r N : Nat) (A : Value) (most : Int) (cs : List Value) (w : World) (hc : IsCl w c a A) (ha : Arn_rec w a r N most cs) (hN : (N : Int) < most) (h4 : most ≤ 4096) :
    Calls Try.prog 8 #[.pointer (some ⟨c, 0, none⟩), .int .i64 v] w fun e w' => e = .returned (.tuple #[.int .i64 N, .int .i64 0]) ∧ PutArn w w' 87 45 9 a r (N + 1) most (cs ++ [.int .i64 1, .int .i64 v, .int .i64 0, .int .i64 0, .int .i64 0, .int .i64 0, .int .i64 0, .int .i64 0, .int .i64 0]) ∧ Mod (two a r) w w' := by
  have c_hc := hc.cell; have f_hc := hc.frozen; have l_hc := hc.lt
  go_enter Try.func8, Try.ntmps8
  go_wp2_with fail
  (with_reducible refine (aput_rec 1 v 0 0 0 0 0 0 0 a r N most cs _ ha hN h4).mono ?_)
  rintro e w5 ⟨rfl, hp, hm5⟩
  go_wp2
  go_ret2
  exact ⟨rfl, hp, hm5⟩
set_option maxRecDepth 100000 in
set_option maxHeartbeats 2000000 in
theorem ver_full (v : Int) (c a r N : Nat) (A : Value) (most : Int) (cs : List Value) (w : World) (hc : IsCl w c a A) (ha : Arn_rec w a r N most cs) (hN : most ≤ (N : Int)) :
    Calls Try.prog 8 #[.pointer (some ⟨c, 0, none⟩), .int .i64 v] w fun e w' => e = .returned (.tuple #[.int .i64 0, .int .i64 4]) ∧ Mod nowhere w w' := by
  have c_hc := hc.cell; have f_hc := hc.frozen; have l_hc := hc.lt
  go_enter Try.func8, Try.ntmps8
  go_wp2_with fail
  (with_reducible refine (aput_full_rec 1 v 0 0 0 0 0 0 0 a r N most cs _ ha hN).mono ?_)
  rintro e w5 ⟨rfl, hbw5⟩
  have hzw5 := hbw5.size
  (try simp at hzw5)
  skip
  skip
  go_wp2
  go_ret2
  exact ⟨rfl, (by repeat (first | with_reducible exact Mod.refl _ _ | with_reducible assumption | with_reducible refine Mod.alloc ?_ _ | with_reducible refine Mod.drew ?_ | with_reducible refine Mod.drewN ?_ _ | with_reducible refine Mod.setCell ?_ (by first | exact .inl rfl | (left; (try unfold from_); show _ ≤ _; first | omega | (simp; done) | (simp; omega)) | (right; first | omega | (simp; done) | (simp; omega))) _ | with_reducible refine Mod.call0 ?_ (by with_reducible assumption) | with_reducible refine Mod.call ?_ (by with_reducible assumption) (by first | (rintro _ rfl; first | exact .inl rfl | (right; (first | omega | (simp; done) | (simp; omega)))) | (rintro _ (rfl | rfl) <;> (right; (first | omega | (simp; done) | (simp; omega)))))))⟩
set_option maxRecDepth 100000 in
set_option maxHeartbeats 2000000 in
theorem bld_ok (own old new p q : Int) (c a r N : Nat) (A : Value) (most : Int) (cs : List Value) (w : World) (hc : IsCl w c a A) (ha : Arn_rec w a r N most cs) (i j : Nat) (hio : old = i) (hjn : new = j) (hi : i < N) (hj : j < N) (hri : Rec9 cs i 1 p 0 0 0 0 0 0 0) (hrj : Rec9 cs j 1 q 0 0 0 0 0 0 0) (ho : -1 ≤ own) (hN : (N : Int) < most) (h4 : most ≤ 4096) :
    Calls Try.prog 10 #[.pointer (some ⟨c, 0, none⟩), .int .i64 own, .int .i64 old, .int .i64 new] w fun e w' => e = .returned (.tuple #[.int .i64 N, .int .i64 0]) ∧ PutArn w w' 87 45 9 a r (N + 1) most (cs ++ [.int .i64 2, .int .i64 0, .int .i64 (own), .int .i64 (old), .int .i64 (new), .int .i64 0, .int .i64 0, .int .i64 0, .int .i64 0]) ∧ Mod (two a r) w w' := by
  subst hio hjn
  have c_hc := hc.cell; have f_hc := hc.frozen; have l_hc := hc.lt
  go_enter Try.func10, Try.ntmps10
  go_wp2_with fail
  (with_reducible refine (val_hit 1 p 0 0 0 0 0 0 0 c a r N A most cs _ (by exact (by repeat (first | with_reducible assumption | with_reducible apply Blk.new | with_reducible exact Blk.newAt (by first | rfl | (simp; done) | (simp; omega)) | with_reducible apply Blk.alloc | with_reducible apply Blk.drew | with_reducible apply Blk.drewN | with_reducible apply Blk.keep0 (hm := by with_reducible assumption) | with_reducible apply Blk.keep (hm := by with_reducible assumption) (hg := by first | omega | exact not_two (by omega) (by omega)) | with_reducible apply Blk.far (hp := by first | omega | (simp; done) | (simp; omega)) | with_reducible apply Blk.set1 | rfl))) (by exact (by repeat (first | with_reducible assumption | with_reducible apply Own.drew | with_reducible apply Own.drewN | with_reducible apply Own.alloc | with_reducible apply Own.keep0 (hm := by with_reducible assumption) | with_reducible apply Own.keep (hm := by with_reducible assumption) (hg := by first | omega | exact not_two (by omega) (by omega)) (hr := by first | omega | exact not_two (by omega) (by omega)) | with_reducible apply Own.far (hg := by first | omega | (simp; omega)) (hr := by first | omega | (simp; omega))))) (i : Int) i rfl hi (by omega) hri rfl).mono ?_)
  rintro e w5 ⟨rfl, hbw5⟩
  have hzw5 := hbw5.size
  (try simp at hzw5)
  (try (have ltw50 : c < w5.heap.size := (by omega); have lcw50 := fun o => hbw5.cell (b := c) o (by first | omega | (simp; done) | (simp; omega)) (id); have lfw50 := fun o => hbw5.frozen (b := c) o (by first | omega | (simp; done) | (simp; omega)) (id)))
  skip
  go_wp2_with fail
  (with_reducible refine (val_hit 1 q 0 0 0 0 0 0 0 c a r N A most cs _ (by exact (by repeat (first | with_reducible assumption | with_reducible apply Blk.new | with_reducible exact Blk.newAt (by first | rfl | (simp; done) | (simp; omega)) | with_reducible apply Blk.alloc | with_reducible apply Blk.drew | with_reducible apply Blk.drewN | with_reducible apply Blk.keep0 (hm := by with_reducible assumption) | with_reducible apply Blk.keep (hm := by with_reducible assumption) (hg := by first | omega | exact not_two (by omega) (by omega)) | with_reducible apply Blk.far (hp := by first | omega | (simp; done) | (simp; omega)) | with_reducible apply Blk.set1 | rfl))) (by exact (by repeat (first | with_reducible assumption | with_reducible apply Own.drew | with_reducible apply Own.drewN | with_reducible apply Own.alloc | with_reducible apply Own.keep0 (hm := by with_reducible assumption) | with_reducible apply Own.keep (hm := by with_reducible assumption) (hg := by first | omega | exact not_two (by omega) (by omega)) (hr := by first | omega | exact not_two (by omega) (by omega)) | with_reducible apply Own.far (hg := by first | omega | (simp; omega)) (hr := by first | omega | (simp; omega))))) (j : Int) j rfl hj (by omega) hrj rfl).mono ?_)
  rintro e w6 ⟨rfl, hbw6⟩
  have hzw6 := hbw6.size
  (try simp at hzw6)
  (try (have ltw60 : c < w6.heap.size := (by omega); have lcw60 := fun o => hbw6.cell (b := c) o (by first | omega | (simp; done) | (simp; omega)) (id); have lfw60 := fun o => hbw6.frozen (b := c) o (by first | omega | (simp; done) | (simp; omega)) (id)))
  skip
  have hm6 : Mod nowhere w w6 := (by repeat (first | with_reducible exact Mod.refl _ _ | with_reducible assumption | with_reducible refine Mod.alloc ?_ _ | with_reducible refine Mod.drew ?_ | with_reducible refine Mod.drewN ?_ _ | with_reducible refine Mod.setCell ?_ (by first | exact .inl rfl | (left; (try unfold from_); show _ ≤ _; first | omega | (simp; done) | (simp; omega)) | (right; first | omega | (simp; done) | (simp; omega))) _ | with_reducible refine Mod.call0 ?_ (by with_reducible assumption) | with_reducible refine Mod.call ?_ (by with_reducible assumption) (by first | (rintro _ rfl; first | exact .inl rfl | (right; (first | omega | (simp; done) | (simp; omega)))) | (rintro _ (rfl | rfl) <;> (right; (first | omega | (simp; done) | (simp; omega)))))))
  go_wp2_with fail
  (with_reducible refine (aput_rec 2 0 own i j 0 0 0 0 a r N most cs _ (ha.keep0 hm6) hN h4).mono ?_)
  rintro e w7 ⟨rfl, ⟨r', hr', hne, ha'⟩, hm7⟩
  have hz := hm6.size
  go_wp2
  go_ret2
  exact ⟨rfl, ⟨r', by omega, hne, ha'⟩, (hm6.mono (fun _ h => h.elim)).trans hm7⟩
set_option maxRecDepth 100000 in
set_option maxHeartbeats 2000000 in
theorem isnew_calls (x0 x1 x2 x3 x4 x5 x6 x7 x8 s : Int) (w : World) :
    Calls Try.prog 41 #[.agg #[.int .i64 x0, .int .i64 x1, .int .i64 x2, .int .i64 x3, .int .i64 x4, .int .i64 x5, .int .i64 x6, .int .i64 x7, .int .i64 x8], .int .i64 s] w fun e w' => e = .returned (.bool (decide (x2 = -1 ∨ s = 2))) ∧ Mod nowhere w w' := by
  go_enter Try.func41, Try.ntmps41
  go_wp2
  all_goals go_ret
  all_goals exact ⟨by by_cases h2 : s = 2 <;> by_cases h3 : x2 = -1 <;> simp_all, (by repeat (first | with_reducible exact Mod.refl _ _ | with_reducible assumption | with_reducible refine Mod.alloc ?_ _ | with_reducible refine Mod.drew ?_ | with_reducible refine Mod.drewN ?_ _ | with_reducible refine Mod.setCell ?_ (by first | exact .inl rfl | (left; (try unfold from_); show _ ≤ _; first | omega | (simp; done) | (simp; omega)) | (right; first | omega | (simp; done) | (simp; omega))) _ | with_reducible refine Mod.call0 ?_ (by with_reducible assumption) | with_reducible refine Mod.call ?_ (by with_reducible assumption) (by first | (rintro _ rfl; first | exact .inl rfl | (right; (first | omega | (simp; done) | (simp; omega)))) | (rintro _ (rfl | rfl) <;> (right; (first | omega | (simp; done) | (simp; omega)))))))⟩
set_option maxRecDepth 100000 in
set_option maxHeartbeats 2000000 in
theorem res_calls (x0 x1 x2 x3 x4 x5 x6 x7 x8 s : Int) (w : World) :
    Calls Try.prog 33 #[.agg #[.int .i64 x0, .int .i64 x1, .int .i64 x2, .int .i64 x3, .int .i64 x4, .int .i64 x5, .int .i64 x6, .int .i64 x7, .int .i64 x8], .int .i64 s] w fun e w' => e = .returned (.int .i64 (if x0 = 2 then (if x2 = -1 ∨ s = 2 then x4 else x3) else 0)) ∧ Mod nowhere w w' := by
  go_enter Try.func33, Try.ntmps33
  go_wp2_with (go_at_call 41; (with_reducible refine (isnew_calls x0 x1 x2 x3 x4 x5 x6 x7 x8 s _).mono ?_); rintro e w5 ⟨rfl, hbw5⟩; have hzw5 := hbw5.size; (try simp at hzw5); obtain ⟨hcw5, hfw5⟩ := hbw5.walk)
  all_goals go_ret
  all_goals exact ⟨by simp_all, (by repeat (first | with_reducible exact Mod.refl _ _ | with_reducible assumption | with_reducible refine Mod.alloc ?_ _ | with_reducible refine Mod.drew ?_ | with_reducible refine Mod.drewN ?_ _ | with_reducible refine Mod.setCell ?_ (by first | exact .inl rfl | (left; (try unfold from_); show _ ≤ _; first | omega | (simp; done) | (simp; omega)) | (right; first | omega | (simp; done) | (simp; omega))) _ | with_reducible refine Mod.call0 ?_ (by with_reducible assumption) | with_reducible refine Mod.call ?_ (by with_reducible assumption) (by first | (rintro _ rfl; first | exact .inl rfl | (right; (first | omega | (simp; done) | (simp; omega)))) | (rintro _ (rfl | rfl) <;> (right; (first | omega | (simp; done) | (simp; omega)))))))⟩
/-- The cells: a row of words. -/
abbrev Cls (w : World) (c a r n : Nat) (cs : List Value) : Prop := Own w 68 (fun s => #[.pointer (some ⟨a, 0, none⟩), s]) 71 1 c r n cs
theorem obj_nil (w : World) :
    Calls Try.prog 6 #[.pointer none] w fun e w' => e = .returned (.int .i64 0) ∧ Mod nowhere w w' := by
  go_enter Try.func6, Try.ntmps6
  go_wp2
  go_ret
  exact ⟨rfl, (by repeat (first | with_reducible exact Mod.refl _ _ | with_reducible assumption | with_reducible refine Mod.alloc ?_ _ | with_reducible refine Mod.drew ?_ | with_reducible refine Mod.drewN ?_ _ | with_reducible refine Mod.setCell ?_ (by first | exact .inl rfl | (left; (try unfold from_); show _ ≤ _; first | omega | (simp; done) | (simp; omega)) | (right; first | omega | (simp; done) | (simp; omega))) _ | with_reducible refine Mod.call0 ?_ (by with_reducible assumption) | with_reducible refine Mod.call ?_ (by with_reducible assumption) (by first | (rintro _ rfl; first | exact .inl rfl | (right; (first | omega | (simp; done) | (simp; omega)))) | (rintro _ (rfl | rfl) <;> (right; (first | omega | (simp; done) | (simp; omega)))))))⟩
theorem obj_calls (c a r n : Nat) (cs : List Value) (w : World) (h : Cls w c a r n cs) :
    Calls Try.prog 6 #[.pointer (some ⟨c, 0, none⟩)] w fun e w' => e = .returned (.int .i64 n) ∧ Mod nowhere w w' := by
  obtain ⟨A, cap, hb, -, -⟩ := h
  have c_hb := hb.cell; have f_hb := hb.frozen; have l_hb := hb.lt
  go_enter Try.func6, Try.ntmps6
  go_wp2
  go_ret
  exact ⟨rfl, (by repeat (first | with_reducible exact Mod.refl _ _ | with_reducible assumption | with_reducible refine Mod.alloc ?_ _ | with_reducible refine Mod.drew ?_ | with_reducible refine Mod.drewN ?_ _ | with_reducible refine Mod.setCell ?_ (by first | exact .inl rfl | (left; (try unfold from_); show _ ≤ _; first | omega | (simp; done) | (simp; omega)) | (right; first | omega | (simp; done) | (simp; omega))) _ | with_reducible refine Mod.call0 ?_ (by with_reducible assumption) | with_reducible refine Mod.call ?_ (by with_reducible assumption) (by first | (rintro _ rfl; first | exact .inl rfl | (right; (first | omega | (simp; done) | (simp; omega)))) | (rintro _ (rfl | rfl) <;> (right; (first | omega | (simp; done) | (simp; omega)))))))⟩
theorem cload_nil (i : Int) (w : World) :
    Calls Try.prog 19 #[.pointer none, .int .i64 i] w fun e w' => e = .returned (.tuple #[.int .i64 0, .int .i64 6]) ∧ Mod nowhere w w' := by
  by_cases h : i < 0
  all_goals
    go_enter Try.func19, Try.ntmps19
    go_wp2_with (go_at_call 6; (with_reducible refine (obj_nil _).mono ?_); rintro e w5 ⟨rfl, hbw5⟩; have hzw5 := hbw5.size; (try simp at hzw5); obtain ⟨hcw5, hfw5⟩ := hbw5.walk)
    all_goals first | (exfalso; simp_all; omega) | skip
    all_goals go_ret2
    all_goals exact ⟨rfl, (by repeat (first | with_reducible exact Mod.refl _ _ | with_reducible assumption | with_reducible refine Mod.alloc ?_ _ | with_reducible refine Mod.drew ?_ | with_reducible refine Mod.drewN ?_ _ | with_reducible refine Mod.setCell ?_ (by first | exact .inl rfl | (left; (try unfold from_); show _ ≤ _; first | omega | (simp; done) | (simp; omega)) | (right; first | omega | (simp; done) | (simp; omega))) _ | with_reducible refine Mod.call0 ?_ (by with_reducible assumption) | with_reducible refine Mod.call ?_ (by with_reducible assumption) (by first | (rintro _ rfl; first | exact .inl rfl | (right; (first | omega | (simp; done) | (simp; omega)))) | (rintro _ (rfl | rfl) <;> (right; (first | omega | (simp; done) | (simp; omega)))))))⟩
theorem swap_nil_c (i old new : Int) (w : World) :
    Calls Try.prog 12 #[.pointer none, .int .i64 i, .int .i64 old, .int .i64 new] w fun e w' => e = .returned (.bool false) ∧ Mod nowhere w w' := by
  by_cases h : 0 ≤ i
  all_goals
    go_enter Try.func12, Try.ntmps12
    go_wp2_with (go_at_call 6; (with_reducible refine (obj_nil _).mono ?_); rintro e w5 ⟨rfl, hbw5⟩; have hzw5 := hbw5.size; (try simp at hzw5); obtain ⟨hcw5, hfw5⟩ := hbw5.walk)
    all_goals first | (exfalso; simp_all; omega) | skip
    all_goals go_ret
    all_goals exact ⟨by simp_all, (by repeat (first | with_reducible exact Mod.refl _ _ | with_reducible assumption | with_reducible refine Mod.alloc ?_ _ | with_reducible refine Mod.drew ?_ | with_reducible refine Mod.drewN ?_ _ | with_reducible refine Mod.setCell ?_ (by first | exact .inl rfl | (left; (try unfold from_); show _ ≤ _; first | omega | (simp; done) | (simp; omega)) | (right; first | omega | (simp; done) | (simp; omega))) _ | with_reducible refine Mod.call0 ?_ (by with_reducible assumption) | with_reducible refine Mod.call ?_ (by with_reducible assumption) (by first | (rintro _ rfl; first | exact .inl rfl | (right; (first | omega | (simp; done) | (simp; omega)))) | (rintro _ (rfl | rfl) <;> (right; (first | omega | (simp; done) | (simp; omega)))))))⟩
set_option maxRecDepth 100000 in
set_option maxHeartbeats 2000000 in
theorem cload_ok (c a r n : Nat) (cs : List Value) (ix : Int) (i s : Nat) (v acc : Int) (w : World) (h : Cls w c a r n cs) (hix : ix = i) (hi : i < n) (hn : n ≤ 8) (hc : cs[i]? = some (.pointer (some ⟨s, 0, none⟩))) (hw : IsWord w s v acc) :
    Calls Try.prog 19 #[.pointer (some ⟨c, 0, none⟩), .int .i64 ix] w fun e w' => e = .returned (.tuple #[.int .i64 v, .int .i64 0]) ∧ IsWord w' s v (wrap64 (acc + 1)) ∧ Mod (· = s) w w' := by
  subst hix
  obtain ⟨cap, hb, hcs⟩ := h.cells (by omega)
  have e0 : w.cell? ⟨r, i, none⟩ = some (.pointer (some ⟨s, 0, none⟩)) := (hcs _ (by omega)).trans hc
  have l_r := h.lt.2
  clear hcs hc
  have c_hb := hb.cell; have f_hb := hb.frozen; have l_hb := hb.lt
  go_enter Try.func19, Try.ntmps19
  go_wp2_with (first | (go_at_call 6; (with_reducible refine (obj_calls c a r n cs _ (by exact (by repeat (first | with_reducible assumption | with_reducible apply Own.drew | with_reducible apply Own.drewN | with_reducible apply Own.alloc | with_reducible apply Own.keep0 (hm := by with_reducible assumption) | with_reducible apply Own.keep (hm := by with_reducible assumption) (hg := by first | omega | exact not_two (by omega) (by omega)) (hr := by first | omega | exact not_two (by omega) (by omega)) | with_reducible apply Own.far (hg := by first | omega | (simp; omega)) (hr := by first | omega | (simp; omega)))))).mono ?_); rintro e w5 ⟨rfl, hbw5⟩; have hzw5 := hbw5.size; (try simp at hzw5); (try (have ltw50 : c < w5.heap.size := (by omega); have lcw50 := fun o => hbw5.cell (b := c) o (by first | omega | (simp; done) | (simp; omega)) (id); have lfw50 := fun o => hbw5.frozen (b := c) o (by first | omega | (simp; done) | (simp; omega)) (id))); (try (have ltw51 : r < w5.heap.size := (by omega); have lcw51 := fun o => hbw5.cell (b := r) o (by first | omega | (simp; done) | (simp; omega)) (id); have lfw51 := fun o => hbw5.frozen (b := r) o (by first | omega | (simp; done) | (simp; omega)) (id))); skip) | (go_at_call 32; (with_reducible refine (load_calls s v acc _ (by exact (by repeat (first | with_reducible assumption | with_reducible apply Blk.new | with_reducible exact Blk.newAt (by first | rfl | (simp; done) | (simp; omega)) | with_reducible apply Blk.alloc | with_reducible apply Blk.drew | with_reducible apply Blk.drewN | with_reducible apply Blk.keep0 (hm := by with_reducible assumption) | with_reducible apply Blk.keep (hm := by with_reducible assumption) (hg := by first | omega | exact not_two (by omega) (by omega)) | with_reducible apply Blk.far (hp := by first | omega | (simp; done) | (simp; omega)) | with_reducible apply Blk.set1 | rfl)))).mono ?_); rintro e w6 ⟨rfl, hkw6, hbw6⟩; have hzw6 := hbw6.size; (try simp at hzw6); have ckw6 := hkw6.cell; have fkw6 := hkw6.frozen; have lkw6 := hkw6.lt; skip; skip))
  all_goals first | (exfalso; simp_all; omega) | skip
  all_goals go_ret2
  all_goals exact ⟨rfl, hkw6, ((Mod.refl _ _).call0 hbw5).call hbw6 (by rintro i rfl; exact .inl rfl)⟩
end Go.Proofs.Ytanmibdnnjfpbaa
