/- What the functions of package desc do, the rest: Turn; no table. -/
import Derived.Test.YtanmibdnnjfpbaaDesc
namespace Go.Proofs.Ytanmibdnnjfpbaa
open Go.RowKit

theorem dswap_yes (g : Nat) (n acc new : Int) (w : World) (h : IsWord w g n acc) :
    Calls Try.prog 26 #[.pointer (some ⟨g, 0, none⟩), .int .i64 n, .int .i64 new] w
      fun e w' => e = .returned (.bool true) ∧ IsWord w' g new (wrap64 (acc + 1)) ∧ Mod (· = g) w w' := by
  have := swap_calls g n acc n new w h
  rwa [if_pos rfl, show (n == n) = true from beq_iff_eq.2 rfl] at this
theorem dswap_no (g : Nat) (n acc old new : Int) (w : World) (h : IsWord w g n acc) (hn : ¬ n = old) :
    Calls Try.prog 26 #[.pointer (some ⟨g, 0, none⟩), .int .i64 old, .int .i64 new] w
      fun e w' => e = .returned (.bool false) ∧ IsWord w' g n (wrap64 (acc + 1)) ∧ Mod (· = g) w w' := by
  have := swap_calls g n acc old new w h
  rwa [if_neg hn, show (n == old) = false from beq_eq_false_iff_ne.2 hn] at this

set_option maxHeartbeats 1000000 in
theorem turn_yes (t a m n : Nat) (M : Int → Option Nat) (id to : Int) (d s : Nat) (prio waiting acc : Int) (w : World) (ht : IsTab w t a m) (hm : IsPMap w m n M) (hi : I64 id) (hM : M id = some d) (hd : IsWds w d s prio waiting) (hs : IsWord w s 1 acc) (hto : to = 2 ∨ to = 3) :
    Calls Try.prog 14 #[.pointer (some ⟨t, 0, none⟩), .int .i64 id, .int .i64 to] w fun e w' => e = .returned (.bool true) ∧ IsWord w' s to (wrap64 (acc + 1)) ∧ Mod (· = s) w w' := by
  have hlook : ∀ W, Mod nowhere w W → (Instr.lookup 72 (.map (some m)) (.int .i64 id) false).run Try.prog W = .ok (.pointer (some ⟨d, 0, none⟩)) W := by
    intro W hW
    have := (hm.keep0 hW).look id hi
    rwa [hM] at this
  have l1 := hlook ((w.alloc (.cells #[.int .i64 to] 51)).alloc (.cells #[.bool false] 4)) (((Mod.refl _ _).alloc _).alloc _)
  have l_s := hs.lt
  clear hlook
  rcases hto with rfl | rfl
  all_goals
    have c_ht := ht.cell; have f_ht := ht.frozen; have l_ht := ht.lt; have c_hd := hd.cell; have f_hd := hd.frozen; have l_hd := hd.lt
    go_enter Try.func14, Try.ntmps14
    go_wp2_with go_in
    go_region_with ((go_at_call 26; (with_reducible refine (dswap_yes s 1 acc _ _ (by exact (by repeat (first | with_reducible assumption | with_reducible apply Blk.new | with_reducible exact Blk.newAt (by first | rfl | (simp; done) | (simp; omega)) | with_reducible apply Blk.alloc | with_reducible apply Blk.drew | with_reducible apply Blk.drewN | with_reducible apply Blk.keep0 (hm := by with_reducible assumption) | with_reducible apply Blk.keep (hm := by with_reducible assumption) (hg := by first | omega | exact not_two (by omega) (by omega)) | with_reducible apply Blk.far (hp := by first | omega | (simp; done) | (simp; omega)) | with_reducible apply Blk.set1 | rfl)))).mono ?_); rintro e w5 ⟨rfl, hkw5, hbw5⟩; have hzw5 := hbw5.size; (try simp at hzw5); have ckw5 := hkw5.cell; have fkw5 := hkw5.frozen; have lkw5 := hkw5.lt; (try (have ltw50 : w.heap.size < w5.heap.size := (by omega); have lcw50 := fun o => hbw5.cell (b := w.heap.size) o (by first | omega | (simp; done) | (simp; omega)) (by first | omega | (simp; omega)); have lfw50 := fun o => hbw5.frozen (b := w.heap.size) o (by first | omega | (simp; done) | (simp; omega)) (by first | omega | (simp; omega)))); (try (have ltw51 : w.heap.size + 1 < w5.heap.size := (by omega); have lcw51 := fun o => hbw5.cell (b := w.heap.size + 1) o (by first | omega | (simp; done) | (simp; omega)) (by first | omega | (simp; omega)); have lfw51 := fun o => hbw5.frozen (b := w.heap.size + 1) o (by first | omega | (simp; done) | (simp; omega)) (by first | omega | (simp; omega)))); skip))
    all_goals
      go_wp2
      go_end0
      go_wp2
      go_ret
      exact ⟨rfl, (by repeat (first | with_reducible assumption | with_reducible apply Blk.new | with_reducible exact Blk.newAt (by first | rfl | (simp; done) | (simp; omega)) | with_reducible apply Blk.alloc | with_reducible apply Blk.drew | with_reducible apply Blk.drewN | with_reducible apply Blk.keep0 (hm := by with_reducible assumption) | with_reducible apply Blk.keep (hm := by with_reducible assumption) (hg := by first | omega | exact not_two (by omega) (by omega)) | with_reducible apply Blk.far (hp := by first | omega | (simp; done) | (simp; omega)) | with_reducible apply Blk.set1 | rfl)), (by repeat (first | with_reducible exact Mod.refl _ _ | with_reducible assumption | with_reducible refine Mod.alloc ?_ _ | with_reducible refine Mod.drew ?_ | with_reducible refine Mod.drewN ?_ _ | with_reducible refine Mod.setCell ?_ (by first | exact .inl rfl | (left; (try unfold from_); show _ ≤ _; first | omega | (simp; done) | (simp; omega)) | (right; first | omega | (simp; done) | (simp; omega))) _ | with_reducible refine Mod.call0 ?_ (by with_reducible assumption) | with_reducible refine Mod.call ?_ (by with_reducible assumption) (by first | (rintro _ rfl; first | exact .inl rfl | (right; (first | omega | (simp; done) | (simp; omega)))) | (rintro _ (rfl | rfl) <;> (right; (first | omega | (simp; done) | (simp; omega)))))))⟩
set_option maxHeartbeats 1000000 in
theorem turn_no (t a m n : Nat) (M : Int → Option Nat) (id to : Int) (d s : Nat) (prio waiting st acc : Int) (w : World) (ht : IsTab w t a m) (hm : IsPMap w m n M) (hi : I64 id) (hM : M id = some d) (hd : IsWds w d s prio waiting) (hs : IsWord w s st acc) (hst : ¬ st = 1) (hto : to = 2 ∨ to = 3) :
    Calls Try.prog 14 #[.pointer (some ⟨t, 0, none⟩), .int .i64 id, .int .i64 to] w fun e w' => e = .returned (.bool false) ∧ IsWord w' s st (wrap64 (acc + 1)) ∧ Mod (· = s) w w' := by
  have hlook : ∀ W, Mod nowhere w W → (Instr.lookup 72 (.map (some m)) (.int .i64 id) false).run Try.prog W = .ok (.pointer (some ⟨d, 0, none⟩)) W := by
    intro W hW
    have := (hm.keep0 hW).look id hi
    rwa [hM] at this
  have l1 := hlook ((w.alloc (.cells #[.int .i64 to] 51)).alloc (.cells #[.bool false] 4)) (((Mod.refl _ _).alloc _).alloc _)
  have l_s := hs.lt
  clear hlook
  have HST := hide hst
  clear hst
  rcases hto with rfl | rfl
  all_goals
    have c_ht := ht.cell; have f_ht := ht.frozen; have l_ht := ht.lt; have c_hd := hd.cell; have f_hd := hd.frozen; have l_hd := hd.lt
    go_enter Try.func14, Try.ntmps14
    go_wp2_with go_in
    go_region_with ((go_at_call 26; (with_reducible refine (dswap_no s st acc _ _ _ (by exact (by repeat (first | with_reducible assumption | with_reducible apply Blk.new | with_reducible exact Blk.newAt (by first | rfl | (simp; done) | (simp; omega)) | with_reducible apply Blk.alloc | with_reducible apply Blk.drew | with_reducible apply Blk.drewN | with_reducible apply Blk.keep0 (hm := by with_reducible assumption) | with_reducible apply Blk.keep (hm := by with_reducible assumption) (hg := by first | omega | exact not_two (by omega) (by omega)) | with_reducible apply Blk.far (hp := by first | omega | (simp; done) | (simp; omega)) | with_reducible apply Blk.set1 | rfl))) HST.out).mono ?_); rintro e w5 ⟨rfl, hkw5, hbw5⟩; have hzw5 := hbw5.size; (try simp at hzw5); have ckw5 := hkw5.cell; have fkw5 := hkw5.frozen; have lkw5 := hkw5.lt; (try (have ltw50 : w.heap.size < w5.heap.size := (by omega); have lcw50 := fun o => hbw5.cell (b := w.heap.size) o (by first | omega | (simp; done) | (simp; omega)) (by first | omega | (simp; omega)); have lfw50 := fun o => hbw5.frozen (b := w.heap.size) o (by first | omega | (simp; done) | (simp; omega)) (by first | omega | (simp; omega)))); (try (have ltw51 : w.heap.size + 1 < w5.heap.size := (by omega); have lcw51 := fun o => hbw5.cell (b := w.heap.size + 1) o (by first | omega | (simp; done) | (simp; omega)) (by first | omega | (simp; omega)); have lfw51 := fun o => hbw5.frozen (b := w.heap.size + 1) o (by first | omega | (simp; done) | (simp; omega)) (by first | omega | (simp; omega)))); skip))
    all_goals
      go_wp2
      go_end0
      go_wp2
      go_ret
      exact ⟨rfl, (by repeat (first | with_reducible assumption | with_reducible apply Blk.new | with_reducible exact Blk.newAt (by first | rfl | (simp; done) | (simp; omega)) | with_reducible apply Blk.alloc | with_reducible apply Blk.drew | with_reducible apply Blk.drewN | with_reducible apply Blk.keep0 (hm := by with_reducible assumption) | with_reducible apply Blk.keep (hm := by with_reducible assumption) (hg := by first | omega | exact not_two (by omega) (by omega)) | with_reducible apply Blk.far (hp := by first | omega | (simp; done) | (simp; omega)) | with_reducible apply Blk.set1 | rfl)), (by repeat (first | with_reducible exact Mod.refl _ _ | with_reducible assumption | with_reducible refine Mod.alloc ?_ _ | with_reducible refine Mod.drew ?_ | with_reducible refine Mod.drewN ?_ _ | with_reducible refine Mod.setCell ?_ (by first | exact .inl rfl | (left; (try unfold from_); show _ ≤ _; first | omega | (simp; done) | (simp; omega)) | (right; first | omega | (simp; done) | (simp; omega))) _ | with_reducible refine Mod.call0 ?_ (by with_reducible assumption) | with_reducible refine Mod.call ?_ (by with_reducible assumption) (by first | (rintro _ rfl; first | exact .inl rfl | (right; (first | omega | (simp; done) | (simp; omega)))) | (rintro _ (rfl | rfl) <;> (right; (first | omega | (simp; done) | (simp; omega)))))))⟩
theorem begin_nil (x0 x1 x2 x3 x4 : Int) (w : World) :
    Calls Try.prog 13 #[.pointer none, .int .i64 x0, .int .i64 x1, .int .i64 x2, .int .i64 x3, .int .i64 x4] w fun e w' => e = .returned (.tuple #[.int .i64 0, .int .i64 6]) ∧ Mod nowhere w w' := by
  go_enter Try.func13, Try.ntmps13
  go_wp2_with go_in
  go_ret2
  exact ⟨rfl, (by repeat (first | with_reducible exact Mod.refl _ _ | with_reducible assumption | with_reducible refine Mod.alloc ?_ _ | with_reducible refine Mod.drew ?_ | with_reducible refine Mod.drewN ?_ _ | with_reducible refine Mod.setCell ?_ (by first | exact .inl rfl | (left; (try unfold from_); show _ ≤ _; first | omega | (simp; done) | (simp; omega)) | (right; first | omega | (simp; done) | (simp; omega))) _ | with_reducible refine Mod.call0 ?_ (by with_reducible assumption) | with_reducible refine Mod.call ?_ (by with_reducible assumption) (by first | (rintro _ rfl; first | exact .inl rfl | (right; (first | omega | (simp; done) | (simp; omega)))) | (rintro _ (rfl | rfl) <;> (right; (first | omega | (simp; done) | (simp; omega)))))))⟩
theorem status_nil (id : Int) (w : World) :
    Calls Try.prog 34 #[.pointer none, .int .i64 id] w fun e w' => e = .returned (.int .i64 0) ∧ Mod nowhere w w' := by
  go_enter Try.func34, Try.ntmps34
  go_wp2_with go_in
  go_ret
  exact ⟨rfl, (by repeat (first | with_reducible exact Mod.refl _ _ | with_reducible assumption | with_reducible refine Mod.alloc ?_ _ | with_reducible refine Mod.drew ?_ | with_reducible refine Mod.drewN ?_ _ | with_reducible refine Mod.setCell ?_ (by first | exact .inl rfl | (left; (try unfold from_); show _ ≤ _; first | omega | (simp; done) | (simp; omega)) | (right; first | omega | (simp; done) | (simp; omega))) _ | with_reducible refine Mod.call0 ?_ (by with_reducible assumption) | with_reducible refine Mod.call ?_ (by with_reducible assumption) (by first | (rintro _ rfl; first | exact .inl rfl | (right; (first | omega | (simp; done) | (simp; omega)))) | (rintro _ (rfl | rfl) <;> (right; (first | omega | (simp; done) | (simp; omega)))))))⟩
theorem turn_nil (id to : Int) (w : World) :
    Calls Try.prog 14 #[.pointer none, .int .i64 id, .int .i64 to] w fun e w' => e = .returned (.bool false) ∧ Mod nowhere w w' := by
  go_enter Try.func14, Try.ntmps14
  go_wp2_with go_in
  all_goals go_ret
  all_goals exact ⟨rfl, (by repeat (first | with_reducible exact Mod.refl _ _ | with_reducible assumption | with_reducible refine Mod.alloc ?_ _ | with_reducible refine Mod.drew ?_ | with_reducible refine Mod.drewN ?_ _ | with_reducible refine Mod.setCell ?_ (by first | exact .inl rfl | (left; (try unfold from_); show _ ≤ _; first | omega | (simp; done) | (simp; omega)) | (right; first | omega | (simp; done) | (simp; omega))) _ | with_reducible refine Mod.call0 ?_ (by with_reducible assumption) | with_reducible refine Mod.call ?_ (by with_reducible assumption) (by first | (rintro _ rfl; first | exact .inl rfl | (right; (first | omega | (simp; done) | (simp; omega)))) | (rintro _ (rfl | rfl) <;> (right; (first | omega | (simp; done) | (simp; omega)))))))⟩
end Go.Proofs.Ytanmibdnnjfpbaa
