/- What the functions of package word do. -/
import Derived.Test.YtanmibdnnjfpbaaProg
import Derived.Test.YtanmibdnnjfpbaaB
import Derived.OwnWalk
import Derived.WalkLawsBesides
import Derived.KernelRfl
import Derived.RegionTactic
import Derived.BigRegion
import Derived.Deep.RegionHeld3
import Derived.Outline
namespace Go.Proofs.Ytanmibdnnjfpbaa
open Go.RowKit

abbrev IsWord (w : World) (g : Nat) (n acc : Int) : Prop := Blk w g 91 #[.int .i64 n, .int .i64 acc]

set_option maxHeartbeats 400000 in
theorem of_calls (n : Int) (w : World) :
    Calls Try.prog 27 #[.int .i64 n] w fun e w' => e = .returned (.pointer (some ⟨w.heap.size, 0, none⟩)) ∧ w.alloc (.cells #[.int .i64 n, .int .i64 0] 91) = w' := by
  go_enter Try.func27, Try.ntmps27
  go_wp2
  go_ret
  exact ⟨rfl, rfl⟩

set_option maxHeartbeats 400000 in
theorem load_calls (g : Nat) (n acc : Int) (w : World) (h : IsWord w g n acc) :
    Calls Try.prog 32 #[.pointer (some ⟨g, 0, none⟩)] w
      fun e w' => e = .returned (.int .i64 n) ∧ IsWord w' g n (wrap64 (acc + 1)) ∧ Mod (· = g) w w' := by
  have c0 : w.cell? ⟨g, 0, none⟩ = some (.int .i64 n) := (h.cell 0).trans rfl
  have c1 : w.cell? ⟨g, 1, none⟩ = some (.int .i64 acc) := (h.cell 1).trans rfl
  have hf := h.unfrozen
  have hl := h.lt
  have ltp1 : g < w.heap.size + 1 := (by omega); have ltp2 : g < w.heap.size + 1 + 1 := (by omega); have ltp3 : g < w.heap.size + 1 + 1 + 1 := (by omega); have ltp4 : g < w.heap.size + 1 + 1 + 1 + 1 := (by omega)
  go_enter Try.func32, Try.ntmps32
  go_wp2
  go_end0
  go_wp2
  go_end0
  go_wp2
  go_ret
  exact ⟨rfl, (by repeat (first | with_reducible assumption | with_reducible refine Blk.alloc ?_ _ | with_reducible refine Blk.drew ?_ | exact Blk.set_ h 1 _ | exact (Blk.set_ h 1 _).set_ 0 _ | with_reducible refine Blk.far ?_ (by simp; omega) _)), (by repeat (first | with_reducible exact Mod.refl _ _ | with_reducible assumption | with_reducible refine Mod.alloc ?_ _ | with_reducible refine Mod.drew ?_ | with_reducible refine Mod.drewN ?_ _ | with_reducible refine Mod.setCell ?_ (by first | exact .inl rfl | (left; (try unfold from_); show _ ≤ _; first | omega | (simp; done) | (simp; omega)) | (right; first | omega | (simp; done) | (simp; omega))) _ | with_reducible refine Mod.call0 ?_ (by with_reducible assumption) | with_reducible refine Mod.call ?_ (by with_reducible assumption) (by first | (rintro _ rfl; first | exact .inl rfl | (right; (first | omega | (simp; done) | (simp; omega)))) | (rintro _ (rfl | rfl) <;> (right; (first | omega | (simp; done) | (simp; omega)))))))⟩
theorem load_nil (w : World) :
    Calls Try.prog 32 #[.pointer none] w fun e w' => e = .returned (.int .i64 0) ∧ Mod nowhere w w' := by
  go_enter Try.func32, Try.ntmps32
  go_wp2
  go_ret
  exact ⟨rfl, (by repeat (first | with_reducible exact Mod.refl _ _ | with_reducible assumption | with_reducible refine Mod.alloc ?_ _ | with_reducible refine Mod.drew ?_ | with_reducible refine Mod.drewN ?_ _ | with_reducible refine Mod.setCell ?_ (by first | exact .inl rfl | (left; (try unfold from_); show _ ≤ _; first | omega | (simp; done) | (simp; omega)) | (right; first | omega | (simp; done) | (simp; omega))) _ | with_reducible refine Mod.call0 ?_ (by with_reducible assumption) | with_reducible refine Mod.call ?_ (by with_reducible assumption) (by first | (rintro _ rfl; first | exact .inl rfl | (right; (first | omega | (simp; done) | (simp; omega)))) | (rintro _ (rfl | rfl) <;> (right; (first | omega | (simp; done) | (simp; omega)))))))⟩

set_option maxHeartbeats 400000 in
theorem swap_calls (g : Nat) (n acc old new : Int) (w : World) (h : IsWord w g n acc) :
    Calls Try.prog 26 #[.pointer (some ⟨g, 0, none⟩), .int .i64 old, .int .i64 new] w
      fun e w' => e = .returned (.bool (n == old)) ∧ IsWord w' g (if n = old then new else n) (wrap64 (acc + 1)) ∧ Mod (· = g) w w' := by
  have c0 : w.cell? ⟨g, 0, none⟩ = some (.int .i64 n) := (h.cell 0).trans rfl
  have c1 : w.cell? ⟨g, 1, none⟩ = some (.int .i64 acc) := (h.cell 1).trans rfl
  have hf := h.unfrozen
  have hl := h.lt
  have ltp1 : g < w.heap.size + 1 := (by omega); have ltp2 : g < w.heap.size + 1 + 1 := (by omega); have ltp3 : g < w.heap.size + 1 + 1 + 1 := (by omega); have ltp4 : g < w.heap.size + 1 + 1 + 1 + 1 := (by omega)
  by_cases hn : n = old
  · have hq : (n == old) = true := beq_iff_eq.2 hn
    rw [if_pos hn, hq]
    clear hn
    go_enter Try.func26, Try.ntmps26
    go_wp2
    go_region
    go_wp2
    all_goals
     go_wp2
     go_end0
     go_wp2
     go_end0
     go_wp2
     go_ret
     exact ⟨rfl, (by repeat (first | with_reducible assumption | with_reducible refine Blk.alloc ?_ _ | with_reducible refine Blk.drew ?_ | exact Blk.set_ h 1 _ | exact (Blk.set_ h 1 _).set_ 0 _ | with_reducible refine Blk.far ?_ (by simp; omega) _)), (by repeat (first | with_reducible exact Mod.refl _ _ | with_reducible assumption | with_reducible refine Mod.alloc ?_ _ | with_reducible refine Mod.drew ?_ | with_reducible refine Mod.drewN ?_ _ | with_reducible refine Mod.setCell ?_ (by first | exact .inl rfl | (left; (try unfold from_); show _ ≤ _; first | omega | (simp; done) | (simp; omega)) | (right; first | omega | (simp; done) | (simp; omega))) _ | with_reducible refine Mod.call0 ?_ (by with_reducible assumption) | with_reducible refine Mod.call ?_ (by with_reducible assumption) (by first | (rintro _ rfl; first | exact .inl rfl | (right; (first | omega | (simp; done) | (simp; omega)))) | (rintro _ (rfl | rfl) <;> (right; (first | omega | (simp; done) | (simp; omega)))))))⟩
  · have hq : (n == old) = false := beq_eq_false_iff_ne.2 hn
    rw [if_neg hn, hq]
    clear hn
    go_enter Try.func26, Try.ntmps26
    go_wp2
    go_region
    go_wp2
    go_end0
    go_wp2
    go_end0
    go_wp2
    go_ret
    exact ⟨rfl, (by repeat (first | with_reducible assumption | with_reducible refine Blk.alloc ?_ _ | with_reducible refine Blk.drew ?_ | exact Blk.set_ h 1 _ | exact (Blk.set_ h 1 _).set_ 0 _ | with_reducible refine Blk.far ?_ (by simp; omega) _)), (by repeat (first | with_reducible exact Mod.refl _ _ | with_reducible assumption | with_reducible refine Mod.alloc ?_ _ | with_reducible refine Mod.drew ?_ | with_reducible refine Mod.drewN ?_ _ | with_reducible refine Mod.setCell ?_ (by first | exact .inl rfl | (left; (try unfold from_); show _ ≤ _; first | omega | (simp; done) | (simp; omega)) | (right; first | omega | (simp; done) | (simp; omega))) _ | with_reducible refine Mod.call0 ?_ (by with_reducible assumption) | with_reducible refine Mod.call ?_ (by with_reducible assumption) (by first | (rintro _ rfl; first | exact .inl rfl | (right; (first | omega | (simp; done) | (simp; omega)))) | (rintro _ (rfl | rfl) <;> (right; (first | omega | (simp; done) | (simp; omega)))))))⟩

theorem swap_nil (old new : Int) (w : World) :
    Calls Try.prog 26 #[.pointer none, .int .i64 old, .int .i64 new] w fun e w' => e = .returned (.bool false) ∧ Mod nowhere w w' := by
  go_enter Try.func26, Try.ntmps26
  go_wp2
  go_ret
  exact ⟨rfl, (by repeat (first | with_reducible exact Mod.refl _ _ | with_reducible assumption | with_reducible refine Mod.alloc ?_ _ | with_reducible refine Mod.drew ?_ | with_reducible refine Mod.drewN ?_ _ | with_reducible refine Mod.setCell ?_ (by first | exact .inl rfl | (left; (try unfold from_); show _ ≤ _; first | omega | (simp; done) | (simp; omega)) | (right; first | omega | (simp; done) | (simp; omega))) _ | with_reducible refine Mod.call0 ?_ (by with_reducible assumption) | with_reducible refine Mod.call ?_ (by with_reducible assumption) (by first | (rintro _ rfl; first | exact .inl rfl | (right; (first | omega | (simp; done) | (simp; omega)))) | (rintro _ (rfl | rfl) <;> (right; (first | omega | (simp; done) | (simp; omega)))))))⟩
end Go.Proofs.Ytanmibdnnjfpbaa
