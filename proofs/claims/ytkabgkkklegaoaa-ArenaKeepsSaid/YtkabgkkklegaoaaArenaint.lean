/- What the functions of package arena do at int. -/
import Derived.Test.YtkabgkkklegaoaaProg
import Derived.Test.YtkabgkkklegaoaaOwn
import Derived.OwnWalk
import Derived.WalkLawsBesides
import Derived.KernelRfl
import Derived.RegionTactic
import Derived.BigRegion
import Derived.Deep.RegionHeld3
import Derived.Deep.RegionLaw
import Derived.Outline
namespace Go.Proofs.Ytkabgkkklegaoaa
open Go.RowKit

abbrev Arn_int (w : World) (g r n : Nat) (most : Int) (cs : List Value) : Prop := Arn w 82 3 1 g r n most cs

set_option maxHeartbeats 400000 in
theorem anew_bad_int (m : Int) (w : World) (h : m < 1 ∨ 4096 < m) :
    Calls Try.prog 24 #[.int .i64 m] w fun e w' => e = .returned (.tuple #[.pointer none, .int .i64 2]) ∧ Mod nowhere w w' := by
  go_enter Try.func24, Try.ntmps24
  go_wp2
  all_goals first | (exfalso; omega) | skip
  all_goals go_ret2
  all_goals exact ⟨rfl, (by repeat (first | with_reducible exact Mod.refl _ _ | with_reducible assumption | with_reducible refine Mod.alloc ?_ _ | with_reducible refine Mod.drew ?_ | with_reducible refine Mod.drewN ?_ _ | with_reducible refine Mod.setCell ?_ (by first | exact .inl rfl | (left; (try unfold from_); show _ ≤ _; first | omega | (simp; done) | (simp; omega)) | (right; first | omega | (simp; done) | (simp; omega))) _ | with_reducible refine Mod.call0 ?_ (by with_reducible assumption) | with_reducible refine Mod.call ?_ (by with_reducible assumption) (by rintro _ rfl; first | exact .inl rfl | (right; (first | omega | (simp; done) | (simp; omega))))))⟩
set_option maxHeartbeats 400000 in
theorem anew_int (m : Int) (w : World) (h : 1 ≤ m) (h2 : m ≤ 4096) :
    Calls Try.prog 24 #[.int .i64 m] w fun e w' => e = .returned (.tuple #[.pointer (some ⟨w.heap.size, 0, none⟩), .int .i64 0]) ∧ w.alloc (.cells #[.slice none 0 0, .int .i64 m] 82) = w' := by
  go_enter Try.func24, Try.ntmps24
  go_wp2
  all_goals first | (exfalso; omega) | skip
  all_goals go_ret2
  all_goals exact ⟨rfl, rfl⟩
theorem aput_nil_int (x0 : Int) (w : World) :
    Calls Try.prog 25 #[.pointer none, .int .i64 x0] w fun e w' => e = .returned (.tuple #[.int .i64 0, .int .i64 6]) ∧ Mod nowhere w w' := by
  go_enter Try.func25, Try.ntmps25
  go_wp2
  go_ret2
  exact ⟨rfl, (by repeat (first | with_reducible exact Mod.refl _ _ | with_reducible assumption | with_reducible refine Mod.alloc ?_ _ | with_reducible refine Mod.drew ?_ | with_reducible refine Mod.drewN ?_ _ | with_reducible refine Mod.setCell ?_ (by first | exact .inl rfl | (left; (try unfold from_); show _ ≤ _; first | omega | (simp; done) | (simp; omega)) | (right; first | omega | (simp; done) | (simp; omega))) _ | with_reducible refine Mod.call0 ?_ (by with_reducible assumption) | with_reducible refine Mod.call ?_ (by with_reducible assumption) (by rintro _ rfl; first | exact .inl rfl | (right; (first | omega | (simp; done) | (simp; omega))))))⟩
set_option maxHeartbeats 400000 in
theorem aput_full_int (x0 : Int) (g r n : Nat) (most : Int) (cs : List Value) (w : World) (h : Arn_int w g r n most cs) (hn : most ≤ (n : Int)) :
    Calls Try.prog 25 #[.pointer (some ⟨g, 0, none⟩), .int .i64 x0] w fun e w' => e = .returned (.tuple #[.int .i64 0, .int .i64 4]) ∧ Mod nowhere w w' := by
  obtain ⟨A, cap, hb, -, -⟩ := h.open_
  have c0 := (hb.cell 0).trans rfl
  have c1 := (hb.cell 1).trans rfl
  have l_b := hb.lt
  go_enter Try.func25, Try.ntmps25
  go_wp2
  go_region
  all_goals go_wp2
  all_goals go_ret2
  all_goals exact ⟨rfl, (by repeat (first | with_reducible exact Mod.refl _ _ | with_reducible assumption | with_reducible refine Mod.alloc ?_ _ | with_reducible refine Mod.drew ?_ | with_reducible refine Mod.drewN ?_ _ | with_reducible refine Mod.setCell ?_ (by first | exact .inl rfl | (left; (try unfold from_); show _ ≤ _; first | omega | (simp; done) | (simp; omega)) | (right; first | omega | (simp; done) | (simp; omega))) _ | with_reducible refine Mod.call0 ?_ (by with_reducible assumption) | with_reducible refine Mod.call ?_ (by with_reducible assumption) (by rintro _ rfl; first | exact .inl rfl | (right; (first | omega | (simp; done) | (simp; omega))))))⟩
theorem ainfo_int : (Try.prog.info? 3).map (fun i => (i.zero, i.size, i.bytes)) = some (some (.int .i64 0), 1, 8) := by kernel_rfl
set_option maxHeartbeats 1000000 in
theorem aput_int (x0 : Int) (g r n : Nat) (most : Int) (cs : List Value) (w : World) (h : Arn_int w g r n most cs) (hn : (n : Int) < most) (hm : most ≤ 4096) :
    Calls Try.prog 25 #[.pointer (some ⟨g, 0, none⟩), .int .i64 x0] w
      fun e w' => e = .returned (.tuple #[.int .i64 n, .int .i64 0]) ∧ PutArn w w' 82 3 1 g r (n + 1) most (cs ++ [.int .i64 x0]) ∧ Mod (two g r) w w' := by
  obtain ⟨A, cap, hb, ho, hr⟩ := h.open_
  have c0 := (hb.cell 0).trans rfl
  have c1 := (hb.cell 1).trans rfl
  have f_b := hb.frozen
  have l_b := hb.lt
  obtain ⟨i0, hi, hz0, hz1, hz2⟩ := info_parts ainfo_int
  have HR := hide hr
  clear hr
  go_enter Try.func25, Try.ntmps25
  go_wp2
  go_region
  all_goals
   go_wp2_with (at_builtin; refine wpList_append_lies _ rfl _ _ _ rfl 0 3 i0 (.int .i64 0) 1 8 Try.underlying56 hi hz0 hz1 hz2 (by rfl) (by omega) _ n cs (by rfl) (ho.alloc _) ⟨w.heap.size, 0, none⟩ 1 1 [.int .i64 x0] (by rfl) (by rfl) ?c1 ?c2 (by omega) ?c4 ?c5 (by simp) _ rfl ?_)
   case c1 => exact fun j u hu => World.news_of_block (heap_alloc_new w _) j u hu
   case c2 => simp [Value.oneCell']
   case c4 => unfold maxLen; omega
   case c5 => omega
   intro q cap1 w1 hown hgrow hat hlt
   obtain ⟨z1, z2, z3, z4, -⟩ := put_mid (mk := fun s => #[s, .int .i64 most]) hb (((Mod.refl _ _).alloc _).drew) HR.out hgrow hat (by omega)
   clear hgrow hat
   have cz := z3.cell
   have fz := z3.frozen
   have lz := z3.lt
   go_wp2
   go_ret2
   have e1 : ((n : Int) + 1 - 1) = n := by omega
   refine ⟨?_, put_end (mk := fun s => #[s, .int .i64 most]) z1 z2 z4 ?_ ?_ hown⟩
   · rfl
   · exact (by repeat (first | with_reducible exact Mod.refl _ _ | with_reducible assumption | with_reducible refine Mod.alloc ?_ _ | with_reducible refine Mod.drew ?_ | with_reducible refine Mod.drewN ?_ _ | with_reducible refine Mod.setCell ?_ (by first | exact .inl rfl | (left; (try unfold from_); show _ ≤ _; first | omega | (simp; done) | (simp; omega)) | (right; first | omega | (simp; done) | (simp; omega))) _ | with_reducible refine Mod.call0 ?_ (by with_reducible assumption) | with_reducible refine Mod.call ?_ (by with_reducible assumption) (by rintro _ rfl; first | exact .inl rfl | (right; (first | omega | (simp; done) | (simp; omega))))))
   · exact (by repeat (first | with_reducible assumption | with_reducible apply Blk.new | with_reducible exact Blk.newAt (by first | rfl | (simp; done) | (simp; omega)) | with_reducible apply Blk.alloc | with_reducible apply Blk.drew | with_reducible apply Blk.drewN | with_reducible apply Blk.keep0 (hm := by with_reducible assumption) | with_reducible apply Blk.keep (hm := by with_reducible assumption) (hg := by omega) | with_reducible apply Blk.far (hp := by first | omega | (simp; done) | (simp; omega)) | with_reducible apply Blk.set1 | rfl))
theorem aat_nil_int (i : Int) (w : World) :
    Calls Try.prog 26 #[.pointer none, .int .i64 i] w fun e w' => e = .returned (.tuple #[.int .i64 0, .int .i64 6]) ∧ Mod nowhere w w' := by
  go_enter Try.func26, Try.ntmps26
  go_wp2
  go_ret2;   exact ⟨rfl, (by repeat (first | with_reducible exact Mod.refl _ _ | with_reducible assumption | with_reducible refine Mod.alloc ?_ _ | with_reducible refine Mod.drew ?_ | with_reducible refine Mod.drewN ?_ _ | with_reducible refine Mod.setCell ?_ (by first | exact .inl rfl | (left; (try unfold from_); show _ ≤ _; first | omega | (simp; done) | (simp; omega)) | (right; first | omega | (simp; done) | (simp; omega))) _ | with_reducible refine Mod.call0 ?_ (by with_reducible assumption) | with_reducible refine Mod.call ?_ (by with_reducible assumption) (by rintro _ rfl; first | exact .inl rfl | (right; (first | omega | (simp; done) | (simp; omega))))))⟩
set_option maxHeartbeats 400000 in
theorem aat_none_int (g r n : Nat) (most : Int) (cs : List Value) (i : Int) (w : World) (h : Arn_int w g r n most cs) (hi : i < 0 ∨ (n : Int) ≤ i) :
    Calls Try.prog 26 #[.pointer (some ⟨g, 0, none⟩), .int .i64 i] w fun e w' => e = .returned (.tuple #[.int .i64 0, .int .i64 6]) ∧ Mod nowhere w w' := by
  obtain ⟨A, cap, hb, -, -⟩ := h.open_
  have c0 := (hb.cell 0).trans rfl
  have l_b := hb.lt
  by_cases h0 : i < 0
  · go_enter Try.func26, Try.ntmps26
    go_wp2
    go_ret2;   exact ⟨rfl, (by repeat (first | with_reducible exact Mod.refl _ _ | with_reducible assumption | with_reducible refine Mod.alloc ?_ _ | with_reducible refine Mod.drew ?_ | with_reducible refine Mod.drewN ?_ _ | with_reducible refine Mod.setCell ?_ (by first | exact .inl rfl | (left; (try unfold from_); show _ ≤ _; first | omega | (simp; done) | (simp; omega)) | (right; first | omega | (simp; done) | (simp; omega))) _ | with_reducible refine Mod.call0 ?_ (by with_reducible assumption) | with_reducible refine Mod.call ?_ (by with_reducible assumption) (by rintro _ rfl; first | exact .inl rfl | (right; (first | omega | (simp; done) | (simp; omega))))))⟩
  · have h1 : (n : Int) ≤ i := by omega
    go_enter Try.func26, Try.ntmps26
    go_wp2
    go_ret2;   exact ⟨rfl, (by repeat (first | with_reducible exact Mod.refl _ _ | with_reducible assumption | with_reducible refine Mod.alloc ?_ _ | with_reducible refine Mod.drew ?_ | with_reducible refine Mod.drewN ?_ _ | with_reducible refine Mod.setCell ?_ (by first | exact .inl rfl | (left; (try unfold from_); show _ ≤ _; first | omega | (simp; done) | (simp; omega)) | (right; first | omega | (simp; done) | (simp; omega))) _ | with_reducible refine Mod.call0 ?_ (by with_reducible assumption) | with_reducible refine Mod.call ?_ (by with_reducible assumption) (by rintro _ rfl; first | exact .inl rfl | (right; (first | omega | (simp; done) | (simp; omega))))))⟩
set_option maxHeartbeats 400000 in
theorem aat_int (x0 : Int) (g r n : Nat) (most : Int) (cs : List Value) (ix : Int) (i : Nat) (hix : ix = i) (w : World) (h : Arn_int w g r n most cs) (hi : i < n) (hn : n ≤ 4096) (h0 : cs[i]? = some (.int .i64 x0)) :
    Calls Try.prog 26 #[.pointer (some ⟨g, 0, none⟩), .int .i64 ix] w fun e w' => e = .returned (.tuple #[.int .i64 x0, .int .i64 0]) ∧ Mod nowhere w w' := by
  subst hix
  obtain ⟨cap, hb, hcs⟩ := h.cells (by omega)
  have e0 : w.cell? ⟨r, i, none⟩ = some (.int .i64 x0) := (hcs _ (by omega)).trans h0
  have c0 := (hb.cell 0).trans rfl
  have l_b := hb.lt
  have l_r := h.lt.2
  clear hcs h0
  go_enter Try.func26, Try.ntmps26
  go_wp2
  go_ret2;   exact ⟨rfl, (by repeat (first | with_reducible exact Mod.refl _ _ | with_reducible assumption | with_reducible refine Mod.alloc ?_ _ | with_reducible refine Mod.drew ?_ | with_reducible refine Mod.drewN ?_ _ | with_reducible refine Mod.setCell ?_ (by first | exact .inl rfl | (left; (try unfold from_); show _ ≤ _; first | omega | (simp; done) | (simp; omega)) | (right; first | omega | (simp; done) | (simp; omega))) _ | with_reducible refine Mod.call0 ?_ (by with_reducible assumption) | with_reducible refine Mod.call ?_ (by with_reducible assumption) (by rintro _ rfl; first | exact .inl rfl | (right; (first | omega | (simp; done) | (simp; omega))))))⟩
theorem alen_nil_int (w : World) :
    Calls Try.prog 27 #[.pointer none] w fun e w' => e = .returned (.int .i64 0) ∧ w = w' := by
  go_enter Try.func27, Try.ntmps27
  go_wp2
  go_ret
  exact ⟨rfl, rfl⟩
theorem alen_int (g r n : Nat) (most : Int) (cs : List Value) (w : World) (h : Arn_int w g r n most cs) :
    Calls Try.prog 27 #[.pointer (some ⟨g, 0, none⟩)] w fun e w' => e = .returned (.int .i64 n) ∧ w = w' := by
  obtain ⟨A, cap, hb, -, -⟩ := h.open_
  have c0 := (hb.cell 0).trans rfl
  go_enter Try.func27, Try.ntmps27
  go_wp2
  go_ret
  exact ⟨rfl, rfl⟩
theorem aleft_nil_int (w : World) :
    Calls Try.prog 28 #[.pointer none] w fun e w' => e = .returned (.int .i64 0) ∧ Mod nowhere w w' := by
  go_enter Try.func28, Try.ntmps28
  go_wp2
  go_ret
  exact ⟨rfl, (by repeat (first | with_reducible exact Mod.refl _ _ | with_reducible assumption | with_reducible refine Mod.alloc ?_ _ | with_reducible refine Mod.drew ?_ | with_reducible refine Mod.drewN ?_ _ | with_reducible refine Mod.setCell ?_ (by first | exact .inl rfl | (left; (try unfold from_); show _ ≤ _; first | omega | (simp; done) | (simp; omega)) | (right; first | omega | (simp; done) | (simp; omega))) _ | with_reducible refine Mod.call0 ?_ (by with_reducible assumption) | with_reducible refine Mod.call ?_ (by with_reducible assumption) (by rintro _ rfl; first | exact .inl rfl | (right; (first | omega | (simp; done) | (simp; omega))))))⟩
theorem aleft_int (g r n : Nat) (most : Int) (cs : List Value) (w : World) (h : Arn_int w g r n most cs) (hn : (n : Int) ≤ most) (hm : most ≤ 4096) :
    Calls Try.prog 28 #[.pointer (some ⟨g, 0, none⟩)] w fun e w' => e = .returned (.int .i64 (most - n)) ∧ Mod nowhere w w' := by
  obtain ⟨A, cap, hb, -, -⟩ := h.open_
  have c0 := (hb.cell 0).trans rfl
  have c1 := (hb.cell 1).trans rfl
  go_enter Try.func28, Try.ntmps28
  go_wp2
  go_region
  all_goals go_wp2
  all_goals go_ret
  all_goals exact ⟨rfl, (by repeat (first | with_reducible exact Mod.refl _ _ | with_reducible assumption | with_reducible refine Mod.alloc ?_ _ | with_reducible refine Mod.drew ?_ | with_reducible refine Mod.drewN ?_ _ | with_reducible refine Mod.setCell ?_ (by first | exact .inl rfl | (left; (try unfold from_); show _ ≤ _; first | omega | (simp; done) | (simp; omega)) | (right; first | omega | (simp; done) | (simp; omega))) _ | with_reducible refine Mod.call0 ?_ (by with_reducible assumption) | with_reducible refine Mod.call ?_ (by with_reducible assumption) (by rintro _ rfl; first | exact .inl rfl | (right; (first | omega | (simp; done) | (simp; omega))))))⟩
end Go.Proofs.Ytkabgkkklegaoaa
