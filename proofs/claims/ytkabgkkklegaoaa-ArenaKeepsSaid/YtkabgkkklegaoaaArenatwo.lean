/- What the functions of package arena do at [2]int. -/
import Derived.Test.YtkabgkkklegaoaaProg
import Derived.Test.YtkabgkkklegaoaaOwn
import Derived.OwnWalk
import Derived.WalkLawsBesides
import Derived.KernelRfl
import Derived.RegionTactic
import Derived.BigRegion
import Derived.Deep.RegionHeld3
import Derived.Deep.RegionLaw
import Derived.Outline
namespace Go.Proofs.Ytkabgkkklegaoaa
open Go.RowKit

abbrev Arn_two (w : World) (g r n : Nat) (most : Int) (cs : List Value) : Prop := Arn w 80 46 2 g r n most cs

set_option maxHeartbeats 400000 in
theorem anew_bad_two (m : Int) (w : World) (h : m < 1 ∨ 4096 < m) :
    Calls Try.prog 20 #[.int .i64 m] w fun e w' => e = .returned (.tuple #[.pointer none, .int .i64 2]) ∧ Mod nowhere w w' := by
  go_enter Try.func20, Try.ntmps20
  go_wp2
  all_goals first | (exfalso; omega) | skip
  all_goals go_ret2
  all_goals exact ⟨rfl, (by repeat (first | with_reducible exact Mod.refl _ _ | with_reducible assumption | with_reducible refine Mod.alloc ?_ _ | with_reducible refine Mod.drew ?_ | with_reducible refine Mod.drewN ?_ _ | with_reducible refine Mod.setCell ?_ (by first | exact .inl rfl | (left; (try unfold from_); show _ ≤ _; first | omega | (simp; done) | (simp; omega)) | (right; first | omega | (simp; done) | (simp; omega))) _ | with_reducible refine Mod.call0 ?_ (by with_reducible assumption) | with_reducible refine Mod.call ?_ (by with_reducible assumption) (by first | (rintro _ rfl; first | exact .inl rfl | (right; (first | omega | (simp; done) | (simp; omega)))) | (rintro _ (rfl | rfl) <;> (right; (first | omega | (simp; done) | (simp; omega)))))))⟩
set_option maxHeartbeats 400000 in
theorem anew_two (m : Int) (w : World) (h : 1 ≤ m) (h2 : m ≤ 4096) :
    Calls Try.prog 20 #[.int .i64 m] w fun e w' => e = .returned (.tuple #[.pointer (some ⟨w.heap.size, 0, none⟩), .int .i64 0]) ∧ w.alloc (.cells #[.slice none 0 0, .int .i64 m] 80) = w' := by
  go_enter Try.func20, Try.ntmps20
  go_wp2
  all_goals first | (exfalso; omega) | skip
  all_goals go_ret2
  all_goals exact ⟨rfl, rfl⟩
theorem aput_nil_two (x0 x1 : Int) (w : World) :
    Calls Try.prog 21 #[.pointer none, .agg #[.int .i64 x0, .int .i64 x1]] w fun e w' => e = .returned (.tuple #[.int .i64 0, .int .i64 6]) ∧ Mod nowhere w w' := by
  go_enter Try.func21, Try.ntmps21
  go_wp2
  go_ret2
  exact ⟨rfl, (by repeat (first | with_reducible exact Mod.refl _ _ | with_reducible assumption | with_reducible refine Mod.alloc ?_ _ | with_reducible refine Mod.drew ?_ | with_reducible refine Mod.drewN ?_ _ | with_reducible refine Mod.setCell ?_ (by first | exact .inl rfl | (left; (try unfold from_); show _ ≤ _; first | omega | (simp; done) | (simp; omega)) | (right; first | omega | (simp; done) | (simp; omega))) _ | with_reducible refine Mod.call0 ?_ (by with_reducible assumption) | with_reducible refine Mod.call ?_ (by with_reducible assumption) (by first | (rintro _ rfl; first | exact .inl rfl | (right; (first | omega | (simp; done) | (simp; omega)))) | (rintro _ (rfl | rfl) <;> (right; (first | omega | (simp; done) | (simp; omega)))))))⟩
set_option maxHeartbeats 400000 in
theorem aput_full_two (x0 x1 : Int) (g r n : Nat) (most : Int) (cs : List Value) (w : World) (h : Arn_two w g r n most cs) (hn : most ≤ (n : Int)) :
    Calls Try.prog 21 #[.pointer (some ⟨g, 0, none⟩), .agg #[.int .i64 x0, .int .i64 x1]] w fun e w' => e = .returned (.tuple #[.int .i64 0, .int .i64 4]) ∧ Mod nowhere w w' := by
  obtain ⟨A, cap, hb, -, -⟩ := h.open_
  have c0 := (hb.cell 0).trans rfl
  have c1 := (hb.cell 1).trans rfl
  have l_b := hb.lt
  go_enter Try.func21, Try.ntmps21
  go_wp2
  go_region
  all_goals go_wp2
  all_goals go_ret2
  all_goals exact ⟨rfl, (by repeat (first | with_reducible exact Mod.refl _ _ | with_reducible assumption | with_reducible refine Mod.alloc ?_ _ | with_reducible refine Mod.drew ?_ | with_reducible refine Mod.drewN ?_ _ | with_reducible refine Mod.setCell ?_ (by first | exact .inl rfl | (left; (try unfold from_); show _ ≤ _; first | omega | (simp; done) | (simp; omega)) | (right; first | omega | (simp; done) | (simp; omega))) _ | with_reducible refine Mod.call0 ?_ (by with_reducible assumption) | with_reducible refine Mod.call ?_ (by with_reducible assumption) (by first | (rintro _ rfl; first | exact .inl rfl | (right; (first | omega | (simp; done) | (simp; omega)))) | (rintro _ (rfl | rfl) <;> (right; (first | omega | (simp; done) | (simp; omega)))))))⟩
theorem ainfo_two : (Try.prog.info? 46).map (fun i => (i.zero, i.size, i.bytes)) = some (some (.agg #[.int .i64 0, .int .i64 0]), 2, 16) := by kernel_rfl
set_option maxHeartbeats 2000000 in
theorem aput_two (x0 x1 : Int) (g r n : Nat) (most : Int) (cs : List Value) (w : World) (h : Arn_two w g r n most cs) (hn : (n : Int) < most) (hm : most ≤ 4096) :
    Calls Try.prog 21 #[.pointer (some ⟨g, 0, none⟩), .agg #[.int .i64 x0, .int .i64 x1]] w
      fun e w' => e = .returned (.tuple #[.int .i64 n, .int .i64 0]) ∧ PutArn w w' 80 46 2 g r (n + 1) most (cs ++ [.int .i64 x0, .int .i64 x1]) ∧ Mod (two g r) w w' := by
  obtain ⟨A, cap, hb, ho, hr⟩ := h.open_
  have c0 := (hb.cell 0).trans rfl
  have c1 := (hb.cell 1).trans rfl
  have f_b := hb.frozen
  have l_b := hb.lt
  obtain ⟨i0, hi, hz0, hz1, hz2⟩ := info_parts ainfo_two
  have HR := hide hr
  have l_r := h.lt.2
  clear hr
  go_enter Try.func21, Try.ntmps21
  go_wp2
  go_region
  all_goals
   go_wp2
   go_region_law ((refine step_append_lies _ (by rfl) _ _ _ (by rfl) 0 46 i0 (.agg #[.int .i64 0, .int .i64 0]) 2 16 Try.underlying41 hi hz0 hz1 hz2 (by rfl) (by omega) _ n cs (by rfl) (owns_keep0 ho (by repeat (first | with_reducible exact Mod.refl _ _ | with_reducible assumption | with_reducible refine Mod.alloc ?_ _ | with_reducible refine Mod.drew ?_ | with_reducible refine Mod.drewN ?_ _ | with_reducible refine Mod.setCell ?_ (by first | exact .inl rfl | (left; (try unfold from_); show _ ≤ _; first | omega | (simp; done) | (simp; omega)) | (right; first | omega | (simp; done) | (simp; omega))) _ | with_reducible refine Mod.call0 ?_ (by with_reducible assumption) | with_reducible refine Mod.call ?_ (by with_reducible assumption) (by first | (rintro _ rfl; first | exact .inl rfl | (right; (first | omega | (simp; done) | (simp; omega)))) | (rintro _ (rfl | rfl) <;> (right; (first | omega | (simp; done) | (simp; omega)))))))) ⟨w.heap.size + 1, 0, none⟩ 1 1 [.int .i64 x0, .int .i64 x1] (by rfl) (by rfl) (World.news_of_block (B := w.heap.size + 1) (cs := #[.int .i64 x0, .int .i64 x1]) (t := 46) (fr := (0, 0)) (by show Blk _ _ _ _; exact (by repeat (first | with_reducible assumption | with_reducible apply Blk.new | with_reducible exact Blk.newAt (by first | rfl | (simp; done) | (simp; omega)) | with_reducible apply Blk.alloc | with_reducible apply Blk.drew | with_reducible apply Blk.drewN | with_reducible apply Blk.keep0 (hm := by with_reducible assumption) | with_reducible apply Blk.keep (hm := by with_reducible assumption) (hg := by first | omega | exact not_two (by omega) (by omega)) | with_reducible apply Blk.far (hp := by first | omega | (simp; done) | (simp; omega)) | with_reducible apply Blk.set1 | rfl)))) (by simp [Value.oneCell']) (by omega) (by unfold maxLen; omega) (by omega) (Nat.zero_le _) (w.heap.size + 2) (by simp) ?_; intro q cap1 w1 hown hgrow hat hlt; obtain ⟨z1, z2, z3, z4, z5⟩ := put_mid (mk := fun s => #[s, .int .i64 most]) hb (by repeat (first | with_reducible exact Mod.refl _ _ | with_reducible assumption | with_reducible refine Mod.alloc ?_ _ | with_reducible refine Mod.drew ?_ | with_reducible refine Mod.drewN ?_ _ | with_reducible refine Mod.setCell ?_ (by first | exact .inl rfl | (left; (try unfold from_); show _ ≤ _; first | omega | (simp; done) | (simp; omega)) | (right; first | omega | (simp; done) | (simp; omega))) _ | with_reducible refine Mod.call0 ?_ (by with_reducible assumption) | with_reducible refine Mod.call ?_ (by with_reducible assumption) (by first | (rintro _ rfl; first | exact .inl rfl | (right; (first | omega | (simp; done) | (simp; omega)))) | (rintro _ (rfl | rfl) <;> (right; (first | omega | (simp; done) | (simp; omega))))))) HR.out hgrow hat (by omega); clear hgrow hat; have zb : Blk w1 w.heap.size 46 #[.int .i64 x0, .int .i64 x1] := Blk.keep (S := (· = r)) (by repeat (first | with_reducible assumption | with_reducible apply Blk.new | with_reducible exact Blk.newAt (by first | rfl | (simp; done) | (simp; omega)) | with_reducible apply Blk.alloc | with_reducible apply Blk.drew | with_reducible apply Blk.drewN | with_reducible apply Blk.keep0 (hm := by with_reducible assumption) | with_reducible apply Blk.keep (hm := by with_reducible assumption) (hg := by first | omega | exact not_two (by omega) (by omega)) | with_reducible apply Blk.far (hp := by first | omega | (simp; done) | (simp; omega)) | with_reducible apply Blk.set1 | rfl)) z5 (by omega); have cb := zb.cell; clear z5 zb; have cz := z3.cell; have fz := z3.frozen; have lz := z3.lt))
   all_goals
    go_wp2
    go_ret2
    refine ⟨rfl, put_end (mk := fun s => #[s, .int .i64 most]) z1 z2 z4 ?_ ?_ hown⟩
    · exact (by repeat (first | with_reducible exact Mod.refl _ _ | with_reducible assumption | with_reducible refine Mod.alloc ?_ _ | with_reducible refine Mod.drew ?_ | with_reducible refine Mod.drewN ?_ _ | with_reducible refine Mod.setCell ?_ (by first | exact .inl rfl | (left; (try unfold from_); show _ ≤ _; first | omega | (simp; done) | (simp; omega)) | (right; first | omega | (simp; done) | (simp; omega))) _ | with_reducible refine Mod.call0 ?_ (by with_reducible assumption) | with_reducible refine Mod.call ?_ (by with_reducible assumption) (by first | (rintro _ rfl; first | exact .inl rfl | (right; (first | omega | (simp; done) | (simp; omega)))) | (rintro _ (rfl | rfl) <;> (right; (first | omega | (simp; done) | (simp; omega)))))))
    · exact (by repeat (first | with_reducible assumption | with_reducible apply Blk.new | with_reducible exact Blk.newAt (by first | rfl | (simp; done) | (simp; omega)) | with_reducible apply Blk.alloc | with_reducible apply Blk.drew | with_reducible apply Blk.drewN | with_reducible apply Blk.keep0 (hm := by with_reducible assumption) | with_reducible apply Blk.keep (hm := by with_reducible assumption) (hg := by first | omega | exact not_two (by omega) (by omega)) | with_reducible apply Blk.far (hp := by first | omega | (simp; done) | (simp; omega)) | with_reducible apply Blk.set1 | rfl))
theorem aat_nil_two (i : Int) (w : World) :
    Calls Try.prog 22 #[.pointer none, .int .i64 i] w fun e w' => e = .returned (.tuple #[.agg #[.int .i64 0, .int .i64 0], .int .i64 6]) ∧ Mod nowhere w w' := by
  go_enter Try.func22, Try.ntmps22
  go_wp2
  exact bodyPost_ret (v := .tuple #[.agg #[.int .i64 0, .int .i64 0], .int .i64 6]) (by simp [results, Try.results22, go_sem]) rfl ⟨rfl, (by repeat (first | with_reducible exact Mod.refl _ _ | with_reducible assumption | with_reducible refine Mod.alloc ?_ _ | with_reducible refine Mod.drew ?_ | with_reducible refine Mod.drewN ?_ _ | with_reducible refine Mod.setCell ?_ (by first | exact .inl rfl | (left; (try unfold from_); show _ ≤ _; first | omega | (simp; done) | (simp; omega)) | (right; first | omega | (simp; done) | (simp; omega))) _ | with_reducible refine Mod.call0 ?_ (by with_reducible assumption) | with_reducible refine Mod.call ?_ (by with_reducible assumption) (by first | (rintro _ rfl; first | exact .inl rfl | (right; (first | omega | (simp; done) | (simp; omega)))) | (rintro _ (rfl | rfl) <;> (right; (first | omega | (simp; done) | (simp; omega)))))))⟩
set_option maxHeartbeats 400000 in
theorem aat_none_two (g r n : Nat) (most : Int) (cs : List Value) (i : Int) (w : World) (h : Arn_two w g r n most cs) (hi : i < 0 ∨ (n : Int) ≤ i) :
    Calls Try.prog 22 #[.pointer (some ⟨g, 0, none⟩), .int .i64 i] w fun e w' => e = .returned (.tuple #[.agg #[.int .i64 0, .int .i64 0], .int .i64 6]) ∧ Mod nowhere w w' := by
  obtain ⟨A, cap, hb, -, -⟩ := h.open_
  have c0 := (hb.cell 0).trans rfl
  have l_b := hb.lt
  by_cases h0 : i < 0
  · go_enter Try.func22, Try.ntmps22
    go_wp2
    exact bodyPost_ret (v := .tuple #[.agg #[.int .i64 0, .int .i64 0], .int .i64 6]) (by simp [results, Try.results22, go_sem]) rfl ⟨rfl, (by repeat (first | with_reducible exact Mod.refl _ _ | with_reducible assumption | with_reducible refine Mod.alloc ?_ _ | with_reducible refine Mod.drew ?_ | with_reducible refine Mod.drewN ?_ _ | with_reducible refine Mod.setCell ?_ (by first | exact .inl rfl | (left; (try unfold from_); show _ ≤ _; first | omega | (simp; done) | (simp; omega)) | (right; first | omega | (simp; done) | (simp; omega))) _ | with_reducible refine Mod.call0 ?_ (by with_reducible assumption) | with_reducible refine Mod.call ?_ (by with_reducible assumption) (by first | (rintro _ rfl; first | exact .inl rfl | (right; (first | omega | (simp; done) | (simp; omega)))) | (rintro _ (rfl | rfl) <;> (right; (first | omega | (simp; done) | (simp; omega)))))))⟩
  · have h1 : (n : Int) ≤ i := by omega
    go_enter Try.func22, Try.ntmps22
    go_wp2
    exact bodyPost_ret (v := .tuple #[.agg #[.int .i64 0, .int .i64 0], .int .i64 6]) (by simp [results, Try.results22, go_sem]) rfl ⟨rfl, (by repeat (first | with_reducible exact Mod.refl _ _ | with_reducible assumption | with_reducible refine Mod.alloc ?_ _ | with_reducible refine Mod.drew ?_ | with_reducible refine Mod.drewN ?_ _ | with_reducible refine Mod.setCell ?_ (by first | exact .inl rfl | (left; (try unfold from_); show _ ≤ _; first | omega | (simp; done) | (simp; omega)) | (right; first | omega | (simp; done) | (simp; omega))) _ | with_reducible refine Mod.call0 ?_ (by with_reducible assumption) | with_reducible refine Mod.call ?_ (by with_reducible assumption) (by first | (rintro _ rfl; first | exact .inl rfl | (right; (first | omega | (simp; done) | (simp; omega)))) | (rintro _ (rfl | rfl) <;> (right; (first | omega | (simp; done) | (simp; omega)))))))⟩
set_option maxHeartbeats 400000 in
theorem aat_two (x0 x1 : Int) (g r n : Nat) (most : Int) (cs : List Value) (ix : Int) (i : Nat) (hix : ix = i) (w : World) (h : Arn_two w g r n most cs) (hi : i < n) (hn : n ≤ 4096) (h0 : cs[i * 2]? = some (.int .i64 x0)) (h1 : cs[i * 2 + 1]? = some (.int .i64 x1)) :
    Calls Try.prog 22 #[.pointer (some ⟨g, 0, none⟩), .int .i64 ix] w fun e w' => e = .returned (.tuple #[.agg #[.int .i64 x0, .int .i64 x1], .int .i64 0]) ∧ Mod nowhere w w' := by
  subst hix
  obtain ⟨cap, hb, hcs⟩ := h.cells (by omega)
  have e0 : w.cell? ⟨r, i * 2, none⟩ = some (.int .i64 x0) := (hcs _ (by omega)).trans h0
  have e1 : w.cell? ⟨r, i * 2 + 1, none⟩ = some (.int .i64 x1) := (hcs _ (by omega)).trans h1
  have c0 := (hb.cell 0).trans rfl
  have l_b := hb.lt
  have l_r := h.lt.2
  clear hcs h0 h1
  go_enter Try.func22, Try.ntmps22
  go_wp2
  exact bodyPost_ret (v := .tuple #[.agg #[.int .i64 x0, .int .i64 x1], .int .i64 0]) (by simp [results, Try.results22, go_sem]) rfl ⟨rfl, (by repeat (first | with_reducible exact Mod.refl _ _ | with_reducible assumption | with_reducible refine Mod.alloc ?_ _ | with_reducible refine Mod.drew ?_ | with_reducible refine Mod.drewN ?_ _ | with_reducible refine Mod.setCell ?_ (by first | exact .inl rfl | (left; (try unfold from_); show _ ≤ _; first | omega | (simp; done) | (simp; omega)) | (right; first | omega | (simp; done) | (simp; omega))) _ | with_reducible refine Mod.call0 ?_ (by with_reducible assumption) | with_reducible refine Mod.call ?_ (by with_reducible assumption) (by first | (rintro _ rfl; first | exact .inl rfl | (right; (first | omega | (simp; done) | (simp; omega)))) | (rintro _ (rfl | rfl) <;> (right; (first | omega | (simp; done) | (simp; omega)))))))⟩
theorem alen_nil_two (w : World) :
    Calls Try.prog 23 #[.pointer none] w fun e w' => e = .returned (.int .i64 0) ∧ w = w' := by
  go_enter Try.func23, Try.ntmps23
  go_wp2
  go_ret
  exact ⟨rfl, rfl⟩
theorem alen_two (g r n : Nat) (most : Int) (cs : List Value) (w : World) (h : Arn_two w g r n most cs) :
    Calls Try.prog 23 #[.pointer (some ⟨g, 0, none⟩)] w fun e w' => e = .returned (.int .i64 n) ∧ w = w' := by
  obtain ⟨A, cap, hb, -, -⟩ := h.open_
  have c0 := (hb.cell 0).trans rfl
  go_enter Try.func23, Try.ntmps23
  go_wp2
  go_ret
  exact ⟨rfl, rfl⟩
end Go.Proofs.Ytkabgkkklegaoaa
