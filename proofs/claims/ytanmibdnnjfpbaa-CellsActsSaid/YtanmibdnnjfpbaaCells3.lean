/- What the functions of package cells do: Swap, Current, All, New (first part). -/
import Derived.Test.YtanmibdnnjfpbaaCells2
import Derived.LoopTactic
namespace Go.Proofs.Ytanmibdnnjfpbaa
open Go.RowKit

set_option maxRecDepth 100000 in
set_option maxHeartbeats 2000000 in
theorem cswap_ok (c a r n : Nat) (cs : List Value) (ix old new : Int) (i s : Nat) (v acc : Int) (w : World) (h : Cls w c a r n cs) (hix : ix = i) (hi : i < n) (hn : n ≤ 8) (hc : cs[i]? = some (.pointer (some ⟨s, 0, none⟩))) (hw : IsWord w s v acc) :
    Calls Try.prog 12 #[.pointer (some ⟨c, 0, none⟩), .int .i64 ix, .int .i64 old, .int .i64 new] w fun e w' => e = .returned (.bool (v == old)) ∧ IsWord w' s (if v = old then new else v) (wrap64 (acc + 1)) ∧ Mod (· = s) w w' := by
  subst hix
  obtain ⟨cap, hb, hcs⟩ := h.cells (by omega)
  have e0 : w.cell? ⟨r, i, none⟩ = some (.pointer (some ⟨s, 0, none⟩)) := (hcs _ (by omega)).trans hc
  have l_r := h.lt.2
  clear hcs hc
  have c_hb := hb.cell; have f_hb := hb.frozen; have l_hb := hb.lt
  go_enter Try.func12, Try.ntmps12
  go_wp2_with (first | (go_at_call 6; (with_reducible refine (obj_calls c a r n cs _ (by exact (by repeat (first | with_reducible assumption | with_reducible apply Own.drew | with_reducible apply Own.drewN | with_reducible apply Own.alloc | with_reducible apply Own.keep0 (hm := by with_reducible assumption) | with_reducible apply Own.keep (hm := by with_reducible assumption) (hg := by first | omega | exact not_two (by omega) (by omega)) (hr := by first | omega | exact not_two (by omega) (by omega)) | with_reducible apply Own.far (hg := by first | omega | (simp; omega)) (hr := by first | omega | (simp; omega)))))).mono ?_); rintro e w5 ⟨rfl, hbw5⟩; have hzw5 := hbw5.size; (try simp at hzw5); (try (have ltw50 : c < w5.heap.size := (by omega); have lcw50 := fun o => hbw5.cell (b := c) o (by first | omega | (simp; done) | (simp; omega)) (id); have lfw50 := fun o => hbw5.frozen (b := c) o (by first | omega | (simp; done) | (simp; omega)) (id))); (try (have ltw51 : r < w5.heap.size := (by omega); have lcw51 := fun o => hbw5.cell (b := r) o (by first | omega | (simp; done) | (simp; omega)) (id); have lfw51 := fun o => hbw5.frozen (b := r) o (by first | omega | (simp; done) | (simp; omega)) (id))); skip) | (go_at_call 26; (with_reducible refine (swap_calls s v acc old new _ (by exact (by repeat (first | with_reducible assumption | with_reducible apply Blk.new | with_reducible exact Blk.newAt (by first | rfl | (simp; done) | (simp; omega)) | with_reducible apply Blk.alloc | with_reducible apply Blk.drew | with_reducible apply Blk.drewN | with_reducible apply Blk.keep0 (hm := by with_reducible assumption) | with_reducible apply Blk.keep (hm := by with_reducible assumption) (hg := by first | omega | exact not_two (by omega) (by omega)) | with_reducible apply Blk.far (hp := by first | omega | (simp; done) | (simp; omega)) | with_reducible apply Blk.set1 | rfl)))).mono ?_); rintro e w6 ⟨rfl, hkw6, hbw6⟩; have hzw6 := hbw6.size; (try simp at hzw6); have ckw6 := hkw6.cell; have fkw6 := hkw6.frozen; have lkw6 := hkw6.lt; skip; skip))
  all_goals first | (exfalso; simp_all; omega) | skip
  all_goals go_ret
  all_goals exact ⟨rfl, (by first | exact hkw6 | (have q := hkw6; split at q <;> simp_all)), ((Mod.refl _ _).call0 hbw5).call hbw6 (by rintro i rfl; exact .inl rfl)⟩
set_option maxRecDepth 100000 in
set_option maxHeartbeats 2000000 in
theorem cload_out (c a r n : Nat) (cs : List Value) (i : Int) (w : World) (h : Cls w c a r n cs) (hi : i < 0 ∨ (n : Int) ≤ i) :
    Calls Try.prog 19 #[.pointer (some ⟨c, 0, none⟩), .int .i64 i] w fun e w' => e = .returned (.tuple #[.int .i64 0, .int .i64 6]) ∧ Mod nowhere w w' := by
  by_cases h0 : i < 0
  all_goals
    go_enter Try.func19, Try.ntmps19
    go_wp2_with (go_at_call 6; (with_reducible refine (obj_calls c a r n cs _ (by exact (by repeat (first | with_reducible assumption | with_reducible apply Own.drew | with_reducible apply Own.drewN | with_reducible apply Own.alloc | with_reducible apply Own.keep0 (hm := by with_reducible assumption) | with_reducible apply Own.keep (hm := by with_reducible assumption) (hg := by first | omega | exact not_two (by omega) (by omega)) (hr := by first | omega | exact not_two (by omega) (by omega)) | with_reducible apply Own.far (hg := by first | omega | (simp; omega)) (hr := by first | omega | (simp; omega)))))).mono ?_); rintro e w5 ⟨rfl, hbw5⟩; have hzw5 := hbw5.size; (try simp at hzw5); (try (have ltw50 : c < w5.heap.size := (by omega); have lcw50 := fun o => hbw5.cell (b := c) o (by first | omega | (simp; done) | (simp; omega)) (id); have lfw50 := fun o => hbw5.frozen (b := c) o (by first | omega | (simp; done) | (simp; omega)) (id))); skip)
    all_goals first | (exfalso; simp_all; omega) | skip
    all_goals go_ret2
    all_goals exact ⟨rfl, (by repeat (first | with_reducible exact Mod.refl _ _ | with_reducible assumption | with_reducible refine Mod.alloc ?_ _ | with_reducible refine Mod.drew ?_ | with_reducible refine Mod.drewN ?_ _ | with_reducible refine Mod.setCell ?_ (by first | exact .inl rfl | (left; (try unfold from_); show _ ≤ _; first | omega | (simp; done) | (simp; omega)) | (right; first | omega | (simp; done) | (simp; omega))) _ | with_reducible refine Mod.call0 ?_ (by with_reducible assumption) | with_reducible refine Mod.call ?_ (by with_reducible assumption) (by first | (rintro _ rfl; first | exact .inl rfl | (right; (first | omega | (simp; done) | (simp; omega)))) | (rintro _ (rfl | rfl) <;> (right; (first | omega | (simp; done) | (simp; omega)))))))⟩
set_option maxRecDepth 100000 in
set_option maxHeartbeats 2000000 in
theorem cur_nil (t : Value) (i : Int) (w : World) :
    Calls Try.prog 20 #[.pointer none, t, .int .i64 i] w fun e w' => e = .returned (.tuple #[.int .i64 0, .int .i64 6]) ∧ Mod nowhere w w' := by
  go_enter Try.func20, Try.ntmps20
  go_wp2_with (go_at_call 19; (with_reducible refine (cload_nil i _).mono ?_); rintro e w5 ⟨rfl, hbw5⟩; have hzw5 := hbw5.size; (try simp at hzw5); skip; skip)
  go_ret2
  exact ⟨rfl, (by repeat (first | with_reducible exact Mod.refl _ _ | with_reducible assumption | with_reducible refine Mod.alloc ?_ _ | with_reducible refine Mod.drew ?_ | with_reducible refine Mod.drewN ?_ _ | with_reducible refine Mod.setCell ?_ (by first | exact .inl rfl | (left; (try unfold from_); show _ ≤ _; first | omega | (simp; done) | (simp; omega)) | (right; first | omega | (simp; done) | (simp; omega))) _ | with_reducible refine Mod.call0 ?_ (by with_reducible assumption) | with_reducible refine Mod.call ?_ (by with_reducible assumption) (by first | (rintro _ rfl; first | exact .inl rfl | (right; (first | omega | (simp; done) | (simp; omega)))) | (rintro _ (rfl | rfl) <;> (right; (first | omega | (simp; done) | (simp; omega)))))))⟩
set_option maxRecDepth 100000 in
set_option maxHeartbeats 2000000 in
theorem all_nil (t : Value) (w : World) :
    Calls Try.prog 16 #[.pointer none, t] w fun e w' => e = .returned (.slice none 0 0) ∧ Mod nowhere w w' := by
  go_enter Try.func16, Try.ntmps16
  go_wp2_with (go_at_call 6; (with_reducible refine (obj_nil _).mono ?_); rintro e w5 ⟨rfl, hbw5⟩; have hzw5 := hbw5.size; (try simp at hzw5); skip; skip)
  have y1 : Mod nowhere w w5 := (by repeat (first | with_reducible exact Mod.refl _ _ | with_reducible assumption | with_reducible refine Mod.alloc ?_ _ | with_reducible refine Mod.drew ?_ | with_reducible refine Mod.drewN ?_ _ | with_reducible refine Mod.setCell ?_ (by first | exact .inl rfl | (left; (try unfold from_); show _ ≤ _; first | omega | (simp; done) | (simp; omega)) | (right; first | omega | (simp; done) | (simp; omega))) _ | with_reducible refine Mod.call0 ?_ (by with_reducible assumption) | with_reducible refine Mod.call ?_ (by with_reducible assumption) (by first | (rintro _ rfl; first | exact .inl rfl | (right; (first | omega | (simp; done) | (simp; omega)))) | (rintro _ (rfl | rfl) <;> (right; (first | omega | (simp; done) | (simp; omega)))))))
  go_loopw [5, 6, 7, 8, 11] (fun s5 _ _ _ s11 wx => s5 = .slice none 0 0 ∧ s11 = .int .i64 0 ∧ Mod nowhere w wx)
    (fun _ _ _ _ _ _ => 0)
  case atStart => exact ⟨rfl, rfl, y1⟩
  case round =>
    obtain ⟨rfl, rfl, hmr⟩ := hrel
    go_wp2
    go_ret
    exact ⟨rfl, hmr⟩
set_option maxRecDepth 100000 in
set_option maxHeartbeats 2000000 in
theorem cnew_nil (s : Value) (w : World) :
    Calls Try.prog 23 #[.pointer none, s] w fun e w' => e = .returned (.tuple #[.pointer none, .int .i64 6]) ∧ Mod nowhere w w' := by
  go_enter Try.func23, Try.ntmps23
  go_wp2
  go_ret2
  exact ⟨rfl, (by repeat (first | with_reducible exact Mod.refl _ _ | with_reducible assumption | with_reducible refine Mod.alloc ?_ _ | with_reducible refine Mod.drew ?_ | with_reducible refine Mod.drewN ?_ _ | with_reducible refine Mod.setCell ?_ (by first | exact .inl rfl | (left; (try unfold from_); show _ ≤ _; first | omega | (simp; done) | (simp; omega)) | (right; first | omega | (simp; done) | (simp; omega))) _ | with_reducible refine Mod.call0 ?_ (by with_reducible assumption) | with_reducible refine Mod.call ?_ (by with_reducible assumption) (by first | (rintro _ rfl; first | exact .inl rfl | (right; (first | omega | (simp; done) | (simp; omega)))) | (rintro _ (rfl | rfl) <;> (right; (first | omega | (simp; done) | (simp; omega)))))))⟩
set_option maxRecDepth 100000 in
set_option maxHeartbeats 2000000 in
theorem status_none (t a m n : Nat) (M : Int → Option Nat) (id : Int) (w : World) (ht : IsTab w t a m) (hm : IsPMap w m n M) (hi : I64 id) (hM : M id = none) :
    Calls Try.prog 34 #[.pointer (some ⟨t, 0, none⟩), .int .i64 id] w fun e w' => e = .returned (.int .i64 0) ∧ Mod nowhere w w' := by
  have hlook : ∀ W, Mod nowhere w W → (Instr.lookup 72 (.map (some m)) (.int .i64 id) false).run Try.prog W = .ok (.pointer none) W := by
    intro W hW
    have := (hm.keep0 hW).look id hi
    rwa [hM] at this
  have l1 := hlook (w.alloc (.cells #[.int .i64 0] 3)) ((Mod.refl _ _).alloc _)
  have c_ht := ht.cell; have f_ht := ht.frozen; have l_ht := ht.lt
  go_enter Try.func34, Try.ntmps34
  go_wp2_with go_in
  all_goals try go_end0
  all_goals try go_wp2
  all_goals go_ret
  all_goals exact ⟨rfl, (by repeat (first | with_reducible exact Mod.refl _ _ | with_reducible assumption | with_reducible refine Mod.alloc ?_ _ | with_reducible refine Mod.drew ?_ | with_reducible refine Mod.drewN ?_ _ | with_reducible refine Mod.setCell ?_ (by first | exact .inl rfl | (left; (try unfold from_); show _ ≤ _; first | omega | (simp; done) | (simp; omega)) | (right; first | omega | (simp; done) | (simp; omega))) _ | with_reducible refine Mod.call0 ?_ (by with_reducible assumption) | with_reducible refine Mod.call ?_ (by with_reducible assumption) (by first | (rintro _ rfl; first | exact .inl rfl | (right; (first | omega | (simp; done) | (simp; omega)))) | (rintro _ (rfl | rfl) <;> (right; (first | omega | (simp; done) | (simp; omega)))))))⟩
end Go.Proofs.Ytanmibdnnjfpbaa
