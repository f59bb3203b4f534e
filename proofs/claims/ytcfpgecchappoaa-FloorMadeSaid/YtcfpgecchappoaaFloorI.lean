/- What the calls do to a whole floor. -/
import Derived.Test.YtcfpgecchappoaaFloorH
namespace Go.Proofs.Ytcfpgecchappoaa
open Go.RowKit

section
variable (p a t c k g : Nat) (c0 c1 c2 c3 c4 c5 : Int) (T : Nat) (z0 z1 z2 : Value) (w : World)
theorem fof_yes (hp : Blk w p 86 #[.pointer (some ⟨a, 0, none⟩), .pointer (some ⟨t, 0, none⟩), .pointer (some ⟨c, 0, none⟩), .pointer (some ⟨k, 0, none⟩), .pointer (some ⟨g, 0, none⟩), .int .i64 c0, .int .i64 c1, .int .i64 c2, .int .i64 c3, .int .i64 c4, .int .i64 c5, .iface T (.agg #[]), z0, z1, z2]) :
    Calls Try.prog 51 #[.pointer (some ⟨p, 0, none⟩)] w fun e w' => e = .returned (.agg #[.pointer (some ⟨a, 0, none⟩), .pointer (some ⟨t, 0, none⟩), .pointer (some ⟨c, 0, none⟩), .pointer (some ⟨k, 0, none⟩), .pointer (some ⟨g, 0, none⟩)]) ∧ Mod nowhere w w' := by
  have c_hp := hp.cell; have f_hp := hp.frozen; have l_hp := hp.lt
  go_enter Try.func51, Try.ntmps51
  go_wp2
  exact bodyPost_ret (v := .agg #[.pointer (some ⟨a, 0, none⟩), .pointer (some ⟨t, 0, none⟩), .pointer (some ⟨c, 0, none⟩), .pointer (some ⟨k, 0, none⟩), .pointer (some ⟨g, 0, none⟩)]) (by simp [results, Try.results51, go_sem, *]) rfl ⟨rfl, (by repeat (first | with_reducible exact Mod.refl _ _ | with_reducible assumption | with_reducible refine Mod.alloc ?_ _ | with_reducible refine Mod.drew ?_ | with_reducible refine Mod.drewN ?_ _ | with_reducible refine Mod.setCell ?_ (by first | exact .inl rfl | (left; (try unfold from_); show _ ≤ _; first | omega | (simp; done) | (simp; omega)) | (right; first | omega | (simp; done) | (simp; omega))) _ | with_reducible refine Mod.call0 ?_ (by with_reducible assumption) | with_reducible refine Mod.call ?_ (by with_reducible assumption) (by first | (rintro _ rfl; first | exact .inl rfl | (right; (first | omega | (simp; done) | (simp; omega)))) | (rintro _ (rfl | rfl) <;> (right; (first | omega | (simp; done) | (simp; omega)))))))⟩
theorem config_yes (hp : Blk w p 86 #[.pointer (some ⟨a, 0, none⟩), .pointer (some ⟨t, 0, none⟩), .pointer (some ⟨c, 0, none⟩), .pointer (some ⟨k, 0, none⟩), .pointer (some ⟨g, 0, none⟩), .int .i64 c0, .int .i64 c1, .int .i64 c2, .int .i64 c3, .int .i64 c4, .int .i64 c5, .iface T (.agg #[]), z0, z1, z2]) :
    Calls Try.prog 15 #[.pointer (some ⟨p, 0, none⟩)] w fun e w' => e = .returned (.agg #[.int .i64 c0, .int .i64 c1, .int .i64 c2, .int .i64 c3, .int .i64 c4, .int .i64 c5]) ∧ Mod nowhere w w' := by
  have c_hp := hp.cell; have f_hp := hp.frozen; have l_hp := hp.lt
  go_enter Try.func15, Try.ntmps15
  go_wp2
  exact bodyPost_ret (v := .agg #[.int .i64 c0, .int .i64 c1, .int .i64 c2, .int .i64 c3, .int .i64 c4, .int .i64 c5]) (by simp [results, Try.results15, go_sem, *]) rfl ⟨rfl, (by repeat (first | with_reducible exact Mod.refl _ _ | with_reducible assumption | with_reducible refine Mod.alloc ?_ _ | with_reducible refine Mod.drew ?_ | with_reducible refine Mod.drewN ?_ _ | with_reducible refine Mod.setCell ?_ (by first | exact .inl rfl | (left; (try unfold from_); show _ ≤ _; first | omega | (simp; done) | (simp; omega)) | (right; first | omega | (simp; done) | (simp; omega))) _ | with_reducible refine Mod.call0 ?_ (by with_reducible assumption) | with_reducible refine Mod.call ?_ (by with_reducible assumption) (by first | (rintro _ rfl; first | exact .inl rfl | (right; (first | omega | (simp; done) | (simp; omega)))) | (rintro _ (rfl | rfl) <;> (right; (first | omega | (simp; done) | (simp; omega)))))))⟩
theorem manager_yes (hp : Blk w p 86 #[.pointer (some ⟨a, 0, none⟩), .pointer (some ⟨t, 0, none⟩), .pointer (some ⟨c, 0, none⟩), .pointer (some ⟨k, 0, none⟩), .pointer (some ⟨g, 0, none⟩), .int .i64 c0, .int .i64 c1, .int .i64 c2, .int .i64 c3, .int .i64 c4, .int .i64 c5, .iface T (.agg #[]), z0, z1, z2]) :
    Calls Try.prog 21 #[.pointer (some ⟨p, 0, none⟩)] w fun e w' => e = .returned (.iface T (.agg #[])) ∧ Mod nowhere w w' := by
  have c_hp := hp.cell; have f_hp := hp.frozen; have l_hp := hp.lt
  go_enter Try.func21, Try.ntmps21
  go_wp2
  go_ret
  exact ⟨rfl, (by repeat (first | with_reducible exact Mod.refl _ _ | with_reducible assumption | with_reducible refine Mod.alloc ?_ _ | with_reducible refine Mod.drew ?_ | with_reducible refine Mod.drewN ?_ _ | with_reducible refine Mod.setCell ?_ (by first | exact .inl rfl | (left; (try unfold from_); show _ ≤ _; first | omega | (simp; done) | (simp; omega)) | (right; first | omega | (simp; done) | (simp; omega))) _ | with_reducible refine Mod.call0 ?_ (by with_reducible assumption) | with_reducible refine Mod.call ?_ (by with_reducible assumption) (by first | (rintro _ rfl; first | exact .inl rfl | (right; (first | omega | (simp; done) | (simp; omega)))) | (rintro _ (rfl | rfl) <;> (right; (first | omega | (simp; done) | (simp; omega)))))))⟩
theorem arena_yes (hp : Blk w p 86 #[.pointer (some ⟨a, 0, none⟩), .pointer (some ⟨t, 0, none⟩), .pointer (some ⟨c, 0, none⟩), .pointer (some ⟨k, 0, none⟩), .pointer (some ⟨g, 0, none⟩), .int .i64 c0, .int .i64 c1, .int .i64 c2, .int .i64 c3, .int .i64 c4, .int .i64 c5, .iface T (.agg #[]), z0, z1, z2]) :
    Calls Try.prog 16 #[.pointer (some ⟨p, 0, none⟩)] w fun e w' => e = .returned (.pointer (some ⟨a, 0, none⟩)) ∧ Mod nowhere w w' := by
  have hfi : ∀ w, Sem.run Try.prog (Instr.field 84 (.agg #[.pointer (some ⟨a, 0, none⟩), .pointer (some ⟨t, 0, none⟩), .pointer (some ⟨c, 0, none⟩), .pointer (some ⟨k, 0, none⟩), .pointer (some ⟨g, 0, none⟩)]) 0) w = .ok (.pointer (some ⟨a, 0, none⟩)) w := fun _ => by kernel_rfl
  have HP := hide hp
  clear hp
  go_enter Try.func16, Try.ntmps16
  go_wp2_with (go_at_call 51; (with_reducible refine (fof_yes p a t c k g c0 c1 c2 c3 c4 c5 T z0 z1 z2 _ (HP.out.keep0 (by repeat (first | with_reducible exact Mod.refl _ _ | with_reducible assumption | with_reducible refine Mod.alloc ?_ _ | with_reducible refine Mod.drew ?_ | with_reducible refine Mod.drewN ?_ _ | with_reducible refine Mod.setCell ?_ (by first | exact .inl rfl | (left; (try unfold from_); show _ ≤ _; first | omega | (simp; done) | (simp; omega)) | (right; first | omega | (simp; done) | (simp; omega))) _ | with_reducible refine Mod.call0 ?_ (by with_reducible assumption) | with_reducible refine Mod.call ?_ (by with_reducible assumption) (by first | (rintro _ rfl; first | exact .inl rfl | (right; (first | omega | (simp; done) | (simp; omega)))) | (rintro _ (rfl | rfl) <;> (right; (first | omega | (simp; done) | (simp; omega))))))))).mono ?_); rintro e w5 ⟨rfl, hbw5⟩; have hzw5 := hbw5.size; (try simp at hzw5); skip; skip)
  go_ret
  exact ⟨rfl, (by repeat (first | with_reducible exact Mod.refl _ _ | with_reducible assumption | with_reducible refine Mod.alloc ?_ _ | with_reducible refine Mod.drew ?_ | with_reducible refine Mod.drewN ?_ _ | with_reducible refine Mod.setCell ?_ (by first | exact .inl rfl | (left; (try unfold from_); show _ ≤ _; first | omega | (simp; done) | (simp; omega)) | (right; first | omega | (simp; done) | (simp; omega))) _ | with_reducible refine Mod.call0 ?_ (by with_reducible assumption) | with_reducible refine Mod.call ?_ (by with_reducible assumption) (by first | (rintro _ rfl; first | exact .inl rfl | (right; (first | omega | (simp; done) | (simp; omega)))) | (rintro _ (rfl | rfl) <;> (right; (first | omega | (simp; done) | (simp; omega)))))))⟩
theorem table_yes (hp : Blk w p 86 #[.pointer (some ⟨a, 0, none⟩), .pointer (some ⟨t, 0, none⟩), .pointer (some ⟨c, 0, none⟩), .pointer (some ⟨k, 0, none⟩), .pointer (some ⟨g, 0, none⟩), .int .i64 c0, .int .i64 c1, .int .i64 c2, .int .i64 c3, .int .i64 c4, .int .i64 c5, .iface T (.agg #[]), z0, z1, z2]) :
    Calls Try.prog 17 #[.pointer (some ⟨p, 0, none⟩)] w fun e w' => e = .returned (.pointer (some ⟨t, 0, none⟩)) ∧ Mod nowhere w w' := by
  have hfi : ∀ w, Sem.run Try.prog (Instr.field 84 (.agg #[.pointer (some ⟨a, 0, none⟩), .pointer (some ⟨t, 0, none⟩), .pointer (some ⟨c, 0, none⟩), .pointer (some ⟨k, 0, none⟩), .pointer (some ⟨g, 0, none⟩)]) 1) w = .ok (.pointer (some ⟨t, 0, none⟩)) w := fun _ => by kernel_rfl
  have HP := hide hp
  clear hp
  go_enter Try.func17, Try.ntmps17
  go_wp2_with (go_at_call 51; (with_reducible refine (fof_yes p a t c k g c0 c1 c2 c3 c4 c5 T z0 z1 z2 _ (HP.out.keep0 (by repeat (first | with_reducible exact Mod.refl _ _ | with_reducible assumption | with_reducible refine Mod.alloc ?_ _ | with_reducible refine Mod.drew ?_ | with_reducible refine Mod.drewN ?_ _ | with_reducible refine Mod.setCell ?_ (by first | exact .inl rfl | (left; (try unfold from_); show _ ≤ _; first | omega | (simp; done) | (simp; omega)) | (right; first | omega | (simp; done) | (simp; omega))) _ | with_reducible refine Mod.call0 ?_ (by with_reducible assumption) | with_reducible refine Mod.call ?_ (by with_reducible assumption) (by first | (rintro _ rfl; first | exact .inl rfl | (right; (first | omega | (simp; done) | (simp; omega)))) | (rintro _ (rfl | rfl) <;> (right; (first | omega | (simp; done) | (simp; omega))))))))).mono ?_); rintro e w5 ⟨rfl, hbw5⟩; have hzw5 := hbw5.size; (try simp at hzw5); skip; skip)
  go_ret
  exact ⟨rfl, (by repeat (first | with_reducible exact Mod.refl _ _ | with_reducible assumption | with_reducible refine Mod.alloc ?_ _ | with_reducible refine Mod.drew ?_ | with_reducible refine Mod.drewN ?_ _ | with_reducible refine Mod.setCell ?_ (by first | exact .inl rfl | (left; (try unfold from_); show _ ≤ _; first | omega | (simp; done) | (simp; omega)) | (right; first | omega | (simp; done) | (simp; omega))) _ | with_reducible refine Mod.call0 ?_ (by with_reducible assumption) | with_reducible refine Mod.call ?_ (by with_reducible assumption) (by first | (rintro _ rfl; first | exact .inl rfl | (right; (first | omega | (simp; done) | (simp; omega)))) | (rintro _ (rfl | rfl) <;> (right; (first | omega | (simp; done) | (simp; omega)))))))⟩
theorem cells_yes (hp : Blk w p 86 #[.pointer (some ⟨a, 0, none⟩), .pointer (some ⟨t, 0, none⟩), .pointer (some ⟨c, 0, none⟩), .pointer (some ⟨k, 0, none⟩), .pointer (some ⟨g, 0, none⟩), .int .i64 c0, .int .i64 c1, .int .i64 c2, .int .i64 c3, .int .i64 c4, .int .i64 c5, .iface T (.agg #[]), z0, z1, z2]) :
    Calls Try.prog 18 #[.pointer (some ⟨p, 0, none⟩)] w fun e w' => e = .returned (.pointer (some ⟨c, 0, none⟩)) ∧ Mod nowhere w w' := by
  have hfi : ∀ w, Sem.run Try.prog (Instr.field 84 (.agg #[.pointer (some ⟨a, 0, none⟩), .pointer (some ⟨t, 0, none⟩), .pointer (some ⟨c, 0, none⟩), .pointer (some ⟨k, 0, none⟩), .pointer (some ⟨g, 0, none⟩)]) 2) w = .ok (.pointer (some ⟨c, 0, none⟩)) w := fun _ => by kernel_rfl
  have HP := hide hp
  clear hp
  go_enter Try.func18, Try.ntmps18
  go_wp2_with (go_at_call 51; (with_reducible refine (fof_yes p a t c k g c0 c1 c2 c3 c4 c5 T z0 z1 z2 _ (HP.out.keep0 (by repeat (first | with_reducible exact Mod.refl _ _ | with_reducible assumption | with_reducible refine Mod.alloc ?_ _ | with_reducible refine Mod.drew ?_ | with_reducible refine Mod.drewN ?_ _ | with_reducible refine Mod.setCell ?_ (by first | exact .inl rfl | (left; (try unfold from_); show _ ≤ _; first | omega | (simp; done) | (simp; omega)) | (right; first | omega | (simp; done) | (simp; omega))) _ | with_reducible refine Mod.call0 ?_ (by with_reducible assumption) | with_reducible refine Mod.call ?_ (by with_reducible assumption) (by first | (rintro _ rfl; first | exact .inl rfl | (right; (first | omega | (simp; done) | (simp; omega)))) | (rintro _ (rfl | rfl) <;> (right; (first | omega | (simp; done) | (simp; omega))))))))).mono ?_); rintro e w5 ⟨rfl, hbw5⟩; have hzw5 := hbw5.size; (try simp at hzw5); skip; skip)
  go_ret
  exact ⟨rfl, (by repeat (first | with_reducible exact Mod.refl _ _ | with_reducible assumption | with_reducible refine Mod.alloc ?_ _ | with_reducible refine Mod.drew ?_ | with_reducible refine Mod.drewN ?_ _ | with_reducible refine Mod.setCell ?_ (by first | exact .inl rfl | (left; (try unfold from_); show _ ≤ _; first | omega | (simp; done) | (simp; omega)) | (right; first | omega | (simp; done) | (simp; omega))) _ | with_reducible refine Mod.call0 ?_ (by with_reducible assumption) | with_reducible refine Mod.call ?_ (by with_reducible assumption) (by first | (rintro _ rfl; first | exact .inl rfl | (right; (first | omega | (simp; done) | (simp; omega)))) | (rintro _ (rfl | rfl) <;> (right; (first | omega | (simp; done) | (simp; omega)))))))⟩
theorem tickets_yes (hp : Blk w p 86 #[.pointer (some ⟨a, 0, none⟩), .pointer (some ⟨t, 0, none⟩), .pointer (some ⟨c, 0, none⟩), .pointer (some ⟨k, 0, none⟩), .pointer (some ⟨g, 0, none⟩), .int .i64 c0, .int .i64 c1, .int .i64 c2, .int .i64 c3, .int .i64 c4, .int .i64 c5, .iface T (.agg #[]), z0, z1, z2]) :
    Calls Try.prog 19 #[.pointer (some ⟨p, 0, none⟩)] w fun e w' => e = .returned (.pointer (some ⟨k, 0, none⟩)) ∧ Mod nowhere w w' := by
  have hfi : ∀ w, Sem.run Try.prog (Instr.field 84 (.agg #[.pointer (some ⟨a, 0, none⟩), .pointer (some ⟨t, 0, none⟩), .pointer (some ⟨c, 0, none⟩), .pointer (some ⟨k, 0, none⟩), .pointer (some ⟨g, 0, none⟩)]) 3) w = .ok (.pointer (some ⟨k, 0, none⟩)) w := fun _ => by kernel_rfl
  have HP := hide hp
  clear hp
  go_enter Try.func19, Try.ntmps19
  go_wp2_with (go_at_call 51; (with_reducible refine (fof_yes p a t c k g c0 c1 c2 c3 c4 c5 T z0 z1 z2 _ (HP.out.keep0 (by repeat (first | with_reducible exact Mod.refl _ _ | with_reducible assumption | with_reducible refine Mod.alloc ?_ _ | with_reducible refine Mod.drew ?_ | with_reducible refine Mod.drewN ?_ _ | with_reducible refine Mod.setCell ?_ (by first | exact .inl rfl | (left; (try unfold from_); show _ ≤ _; first | omega | (simp; done) | (simp; omega)) | (right; first | omega | (simp; done) | (simp; omega))) _ | with_reducible refine Mod.call0 ?_ (by with_reducible assumption) | with_reducible refine Mod.call ?_ (by with_reducible assumption) (by first | (rintro _ rfl; first | exact .inl rfl | (right; (first | omega | (simp; done) | (simp; omega)))) | (rintro _ (rfl | rfl) <;> (right; (first | omega | (simp; done) | (simp; omega))))))))).mono ?_); rintro e w5 ⟨rfl, hbw5⟩; have hzw5 := hbw5.size; (try simp at hzw5); skip; skip)
  go_ret
  exact ⟨rfl, (by repeat (first | with_reducible exact Mod.refl _ _ | with_reducible assumption | with_reducible refine Mod.alloc ?_ _ | with_reducible refine Mod.drew ?_ | with_reducible refine Mod.drewN ?_ _ | with_reducible refine Mod.setCell ?_ (by first | exact .inl rfl | (left; (try unfold from_); show _ ≤ _; first | omega | (simp; done) | (simp; omega)) | (right; first | omega | (simp; done) | (simp; omega))) _ | with_reducible refine Mod.call0 ?_ (by with_reducible assumption) | with_reducible refine Mod.call ?_ (by with_reducible assumption) (by first | (rintro _ rfl; first | exact .inl rfl | (right; (first | omega | (simp; done) | (simp; omega)))) | (rintro _ (rfl | rfl) <;> (right; (first | omega | (simp; done) | (simp; omega)))))))⟩
theorem gate_yes (hp : Blk w p 86 #[.pointer (some ⟨a, 0, none⟩), .pointer (some ⟨t, 0, none⟩), .pointer (some ⟨c, 0, none⟩), .pointer (some ⟨k, 0, none⟩), .pointer (some ⟨g, 0, none⟩), .int .i64 c0, .int .i64 c1, .int .i64 c2, .int .i64 c3, .int .i64 c4, .int .i64 c5, .iface T (.agg #[]), z0, z1, z2]) :
    Calls Try.prog 20 #[.pointer (some ⟨p, 0, none⟩)] w fun e w' => e = .returned (.pointer (some ⟨g, 0, none⟩)) ∧ Mod nowhere w w' := by
  have hfi : ∀ w, Sem.run Try.prog (Instr.field 84 (.agg #[.pointer (some ⟨a, 0, none⟩), .pointer (some ⟨t, 0, none⟩), .pointer (some ⟨c, 0, none⟩), .pointer (some ⟨k, 0, none⟩), .pointer (some ⟨g, 0, none⟩)]) 4) w = .ok (.pointer (some ⟨g, 0, none⟩)) w := fun _ => by kernel_rfl
  have HP := hide hp
  clear hp
  go_enter Try.func20, Try.ntmps20
  go_wp2_with (go_at_call 51; (with_reducible refine (fof_yes p a t c k g c0 c1 c2 c3 c4 c5 T z0 z1 z2 _ (HP.out.keep0 (by repeat (first | with_reducible exact Mod.refl _ _ | with_reducible assumption | with_reducible refine Mod.alloc ?_ _ | with_reducible refine Mod.drew ?_ | with_reducible refine Mod.drewN ?_ _ | with_reducible refine Mod.setCell ?_ (by first | exact .inl rfl | (left; (try unfold from_); show _ ≤ _; first | omega | (simp; done) | (simp; omega)) | (right; first | omega | (simp; done) | (simp; omega))) _ | with_reducible refine Mod.call0 ?_ (by with_reducible assumption) | with_reducible refine Mod.call ?_ (by with_reducible assumption) (by first | (rintro _ rfl; first | exact .inl rfl | (right; (first | omega | (simp; done) | (simp; omega)))) | (rintro _ (rfl | rfl) <;> (right; (first | omega | (simp; done) | (simp; omega))))))))).mono ?_); rintro e w5 ⟨rfl, hbw5⟩; have hzw5 := hbw5.size; (try simp at hzw5); skip; skip)
  go_ret
  exact ⟨rfl, (by repeat (first | with_reducible exact Mod.refl _ _ | with_reducible assumption | with_reducible refine Mod.alloc ?_ _ | with_reducible refine Mod.drew ?_ | with_reducible refine Mod.drewN ?_ _ | with_reducible refine Mod.setCell ?_ (by first | exact .inl rfl | (left; (try unfold from_); show _ ≤ _; first | omega | (simp; done) | (simp; omega)) | (right; first | omega | (simp; done) | (simp; omega))) _ | with_reducible refine Mod.call0 ?_ (by with_reducible assumption) | with_reducible refine Mod.call ?_ (by with_reducible assumption) (by first | (rintro _ rfl; first | exact .inl rfl | (right; (first | omega | (simp; done) | (simp; omega)))) | (rintro _ (rfl | rfl) <;> (right; (first | omega | (simp; done) | (simp; omega)))))))⟩
end
theorem count_zero (t : Nat) (a m : Nat) (M : Int → Option Nat) (w : World) (ht : IsTab w t a m) (hm : IsPMap w m 0 M) :
    Calls Try.prog 28 #[.pointer (some ⟨t, 0, none⟩)] w fun e w' => e = .returned (.int .i64 0) ∧ Mod nowhere w w' := by
  have hl : ∀ ty, (Builtin.len_ #[103] ty #[.map (some m)]).run Try.prog w = .ok (.int .i64 0) w := by
    intro ty
    obtain ⟨D, ⟨es, clock, hb, -, hz, -⟩, -⟩ := hm
    obtain rfl : es = #[] := Array.eq_empty_of_size_eq_zero (by omega)
    simp [Builtin.len_, run_underlying Try.underlying103, MapKept.run_getObj_map hb, goInt, Result.andThen]
  have c_ht := ht.cell; have f_ht := ht.frozen; have l_ht := ht.lt
  go_enter Try.func28, Try.ntmps28
  go_wp2
  go_ret
  exact ⟨rfl, (by repeat (first | with_reducible exact Mod.refl _ _ | with_reducible assumption | with_reducible refine Mod.alloc ?_ _ | with_reducible refine Mod.drew ?_ | with_reducible refine Mod.drewN ?_ _ | with_reducible refine Mod.setCell ?_ (by first | exact .inl rfl | (left; (try unfold from_); show _ ≤ _; first | omega | (simp; done) | (simp; omega)) | (right; first | omega | (simp; done) | (simp; omega))) _ | with_reducible refine Mod.call0 ?_ (by with_reducible assumption) | with_reducible refine Mod.call ?_ (by with_reducible assumption) (by first | (rintro _ rfl; first | exact .inl rfl | (right; (first | omega | (simp; done) | (simp; omega)))) | (rintro _ (rfl | rfl) <;> (right; (first | omega | (simp; done) | (simp; omega)))))))⟩
theorem sys_beg2 {B r N nd : Nat} {K : KD} {cs : List Value} {v : Nat → Nat} {M : Int → Option Nat} {q : Int → Nat} {st : Int → Int} (w : World) (h : Sys w B K r N cs v nd M q st) (hB : B ≤ w.heap.size) (x0 x1 x2 x3 x4 : Int) (hN : (N : Int) < K.most) (h0 : 0 ≤ x0) (h1 : 0 ≤ x1) (h2 : 0 ≤ x2) (h3 : 0 ≤ x3) (h5 : 0 ≤ x4) :
    Calls Try.prog 35 #[.pointer (some ⟨K.t, 0, none⟩), .int .i64 x0, .int .i64 x1, .int .i64 x2, .int .i64 x3, .int .i64 x4] w
      fun e w' => ∃ r' d x, e = .returned (.tuple #[.int .i64 N, .int .i64 0]) ∧ (r' = r ∨ w.heap.size ≤ r') ∧ w.heap.size ≤ d ∧ w.heap.size ≤ x ∧ Sys w' B K r' (N + 1) (cs ++ [.int .i64 3, .int .i64 0, .int .i64 0, .int .i64 0, .int .i64 0, .int .i64 x0, .int .i64 x1, .int .i64 x2, .int .i64 x3]) v (nd + 1) (updz M N (some d)) (updz q N x) (updz st N 1) ∧ Mod (In K r M q) w w' := by
  have h4' := h.m4
  have e5 := h.other h.tab (by decide) (by decide) (by decide) (by decide)
  obtain ⟨A1, p1, hA, -⟩ := h.cf.arn
  have e6 : K.m ≠ K.a := h.map.ne_blk hA
  have hle := h.le
  have e7 : K.m ≠ r := by
    by_cases e : r = K.a
    · rw [e]; exact e6
    · obtain ⟨cur, hx⟩ := Own.rowBlk h.cf.arn e; exact h.map.ne_blk hx
  refine (begin_calls K.t K.a r K.m N nd K.most cs M x0 x1 x2 x3 x4 w h.tab h.map h.cf.arn hN h4' (by omega) (by omega) h0 h1 h2 h3 h5).mono ?_
  rintro e w' ⟨rfl, hp, hm⟩
  obtain ⟨r', d, x, hr', c1, c2, hs⟩ := h.begin_ hB hp hm hN
  exact ⟨r', d, x, rfl, hr', c1, c2, hs, hm.mono fun b e => .inr (e.elim .inl fun e => .inr (.inr (e.elim .inl fun e => .inr (.inr (.inl e)))))⟩
theorem alen_rec (g r n : Nat) (most : Int) (cs : List Value) (w : World) (h : Arn_rec w g r n most cs) :
    Calls Try.prog 26 #[.pointer (some ⟨g, 0, none⟩)] w fun e w' => e = .returned (.int .i64 n) ∧ Mod nowhere w w' := by
  obtain ⟨A, cap, hb, -, -⟩ := h.open_
  have c0 := (hb.cell 0).trans rfl
  have l_b := hb.lt
  go_enter Try.func26, Try.ntmps26
  go_wp2
  go_ret
  exact ⟨rfl, (by repeat (first | with_reducible exact Mod.refl _ _ | with_reducible assumption | with_reducible refine Mod.alloc ?_ _ | with_reducible refine Mod.drew ?_ | with_reducible refine Mod.drewN ?_ _ | with_reducible refine Mod.setCell ?_ (by first | exact .inl rfl | (left; (try unfold from_); show _ ≤ _; first | omega | (simp; done) | (simp; omega)) | (right; first | omega | (simp; done) | (simp; omega))) _ | with_reducible refine Mod.call0 ?_ (by with_reducible assumption) | with_reducible refine Mod.call ?_ (by with_reducible assumption) (by first | (rintro _ rfl; first | exact .inl rfl | (right; (first | omega | (simp; done) | (simp; omega)))) | (rintro _ (rfl | rfl) <;> (right; (first | omega | (simp; done) | (simp; omega)))))))⟩

section
variable {P : Nat → Prop} {D : FD} {B r N nn : Nat} {cs : List Value} {v : Nat → Nat} {M : Int → Option Nat} {q : Int → Nat} {st : Int → Int} {tkn gc : Int} {ps : List Int} {G : Nat → Nat} {tn rt : Nat} {ts : List Value}
theorem Flo.inP {w : World} (h : Flo P D w B r N cs v nn M q st tkn gc ps G tn rt ts) : (∀ b, In D.K r M q b → P b) ∧ (∀ b, Wd D.K M q b → P b) := ⟨h.sP, fun b x => h.sP b x.in_⟩
theorem farena (w : World) (h : Flo P D w B r N cs v nn M q st tkn gc ps G tn rt ts) : Calls Try.prog 16 #[.pointer (some ⟨D.p, 0, none⟩)] w fun e w' => e = .returned (.pointer (some ⟨D.K.a, 0, none⟩)) ∧ Flo P D w' B r N cs v nn M q st tkn gc ps G tn rt ts ∧ Mod P w w' := by
  obtain ⟨s, hb⟩ := h.blk
  exact (arena_yes _ _ _ _ _ _ _ _ _ _ _ _ _ _ _ _ w hb).mono (by rintro e w' ⟨rfl, hm⟩; exact ⟨rfl, h.keep0 hm, hm.mono fun _ x => x.elim⟩)
theorem ftable (w : World) (h : Flo P D w B r N cs v nn M q st tkn gc ps G tn rt ts) : Calls Try.prog 17 #[.pointer (some ⟨D.p, 0, none⟩)] w fun e w' => e = .returned (.pointer (some ⟨D.K.t, 0, none⟩)) ∧ Flo P D w' B r N cs v nn M q st tkn gc ps G tn rt ts ∧ Mod P w w' := by
  obtain ⟨s, hb⟩ := h.blk
  exact (table_yes _ _ _ _ _ _ _ _ _ _ _ _ _ _ _ _ w hb).mono (by rintro e w' ⟨rfl, hm⟩; exact ⟨rfl, h.keep0 hm, hm.mono fun _ x => x.elim⟩)
theorem fcells (w : World) (h : Flo P D w B r N cs v nn M q st tkn gc ps G tn rt ts) : Calls Try.prog 18 #[.pointer (some ⟨D.p, 0, none⟩)] w fun e w' => e = .returned (.pointer (some ⟨D.K.c, 0, none⟩)) ∧ Flo P D w' B r N cs v nn M q st tkn gc ps G tn rt ts ∧ Mod P w w' := by
  obtain ⟨s, hb⟩ := h.blk
  exact (cells_yes _ _ _ _ _ _ _ _ _ _ _ _ _ _ _ _ w hb).mono (by rintro e w' ⟨rfl, hm⟩; exact ⟨rfl, h.keep0 hm, hm.mono fun _ x => x.elim⟩)
theorem ftickets (w : World) (h : Flo P D w B r N cs v nn M q st tkn gc ps G tn rt ts) : Calls Try.prog 19 #[.pointer (some ⟨D.p, 0, none⟩)] w fun e w' => e = .returned (.pointer (some ⟨D.tk, 0, none⟩)) ∧ Flo P D w' B r N cs v nn M q st tkn gc ps G tn rt ts ∧ Mod P w w' := by
  obtain ⟨s, hb⟩ := h.blk
  exact (tickets_yes _ _ _ _ _ _ _ _ _ _ _ _ _ _ _ _ w hb).mono (by rintro e w' ⟨rfl, hm⟩; exact ⟨rfl, h.keep0 hm, hm.mono fun _ x => x.elim⟩)
theorem fgate (w : World) (h : Flo P D w B r N cs v nn M q st tkn gc ps G tn rt ts) : Calls Try.prog 20 #[.pointer (some ⟨D.p, 0, none⟩)] w fun e w' => e = .returned (.pointer (some ⟨D.g, 0, none⟩)) ∧ Flo P D w' B r N cs v nn M q st tkn gc ps G tn rt ts ∧ Mod P w w' := by
  obtain ⟨s, hb⟩ := h.blk
  exact (gate_yes _ _ _ _ _ _ _ _ _ _ _ _ _ _ _ _ w hb).mono (by rintro e w' ⟨rfl, hm⟩; exact ⟨rfl, h.keep0 hm, hm.mono fun _ x => x.elim⟩)
theorem fmanager (w : World) (h : Flo P D w B r N cs v nn M q st tkn gc ps G tn rt ts) : Calls Try.prog 21 #[.pointer (some ⟨D.p, 0, none⟩)] w fun e w' => e = .returned (.iface D.T (.agg #[])) ∧ Flo P D w' B r N cs v nn M q st tkn gc ps G tn rt ts ∧ Mod P w w' := by
  obtain ⟨s, hb⟩ := h.blk
  exact (manager_yes _ _ _ _ _ _ _ _ _ _ _ _ _ _ _ _ w hb).mono (by rintro e w' ⟨rfl, hm⟩; exact ⟨rfl, h.keep0 hm, hm.mono fun _ x => x.elim⟩)
theorem fconfig (w : World) (h : Flo P D w B r N cs v nn M q st tkn gc ps G tn rt ts) : Calls Try.prog 15 #[.pointer (some ⟨D.p, 0, none⟩)] w fun e w' => e = .returned (.agg #[.int .i64 D.c0, .int .i64 D.n1, .int .i64 D.c2, .int .i64 D.c3, .int .i64 D.c4, .int .i64 D.c5]) ∧ Flo P D w' B r N cs v nn M q st tkn gc ps G tn rt ts ∧ Mod P w w' := by
  obtain ⟨s, hb⟩ := h.blk
  exact (config_yes _ _ _ _ _ _ _ _ _ _ _ _ _ _ _ _ w hb).mono (by rintro e w' ⟨rfl, hm⟩; exact ⟨rfl, h.keep0 hm, hm.mono fun _ x => x.elim⟩)
theorem fver (w : World) (h : Flo P D w B r N cs v nn M q st tkn gc ps G tn rt ts) (x n : Int) (hU : ∀ b, w.heap.size ≤ b → P b) (hN : (N : Int) = n) (hf : n < D.K.most) :
    Calls Try.prog 36 #[.pointer (some ⟨D.K.c, 0, none⟩), .int .i64 x] w fun e w' => ∃ r', e = .returned (.tuple #[.int .i64 n, .int .i64 0]) ∧ Flo P D w' B r' (N + 1) (cs ++ [.int .i64 1, .int .i64 x, .int .i64 0, .int .i64 0, .int .i64 0, .int .i64 0, .int .i64 0, .int .i64 0, .int .i64 0]) v nn M q st tkn gc ps G tn rt ts ∧ Mod P w w' := by
  subst hN
  refine (sys_ver w h.sys h.hB x hf).mono ?_
  rintro e w' ⟨r', rfl, hs, hr, hm⟩
  exact ⟨r', rfl, h.stepR hU hs hr hm, hm.mono h.inP.1⟩
theorem fload (w : World) (h : Flo P D w B r N cs v nn M q st tkn gc ps G tn rt ts) (ix : Int) (i : Nat) (x : Int) (hix : ix = i) (hi : i < D.K.k) (hx : (v i : Int) = x) :
    Calls Try.prog 37 #[.pointer (some ⟨D.K.c, 0, none⟩), .int .i64 ix] w fun e w' => e = .returned (.tuple #[.int .i64 x, .int .i64 0]) ∧ Flo P D w' B r N cs v nn M q st tkn gc ps G tn rt ts ∧ Mod P w w' := by
  subst hx
  refine (sys_load w h.sys ix i hix hi).mono ?_
  rintro e w' ⟨rfl, hs, hm⟩
  exact ⟨rfl, h.stepW hs hm, hm.mono h.inP.2⟩
theorem fbld (w : World) (h : Flo P D w B r N cs v nn M q st tkn gc ps G tn rt ts) (own old new p1 p2 n : Int) (i j : Nat) (hU : ∀ b, w.heap.size ≤ b → P b) (hN : (N : Int) = n) (hio : old = i) (hjn : new = j) (hi : i < N) (hj : j < N) (hri : Rec9 cs i 1 p1 0 0 0 0 0 0 0) (hrj : Rec9 cs j 1 p2 0 0 0 0 0 0 0) (ho : -1 ≤ own) (hf : n < D.K.most) :
    Calls Try.prog 38 #[.pointer (some ⟨D.K.c, 0, none⟩), .int .i64 own, .int .i64 old, .int .i64 new] w fun e w' => ∃ r', e = .returned (.tuple #[.int .i64 n, .int .i64 0]) ∧ Flo P D w' B r' (N + 1) (cs ++ [.int .i64 2, .int .i64 0, .int .i64 own, .int .i64 old, .int .i64 new, .int .i64 0, .int .i64 0, .int .i64 0, .int .i64 0]) v nn M q st tkn gc ps G tn rt ts ∧ Mod P w w' := by
  subst hN
  refine (sys_bld w h.sys h.hB own old new p1 p2 i j hio hjn hi hj hri hrj ho hf).mono ?_
  rintro e w' ⟨r', rfl, hs, hr, hm⟩
  exact ⟨r', rfl, h.stepR hU hs hr hm, hm.mono h.inP.1⟩
theorem fswap (w : World) (h : Flo P D w B r N cs v nn M q st tkn gc ps G tn rt ts) (ix old new : Int) (i x : Nat) (hix : ix = i) (hi : i < D.K.k) (hn : new = x) (he : (v i : Int) = old) :
    Calls Try.prog 39 #[.pointer (some ⟨D.K.c, 0, none⟩), .int .i64 ix, .int .i64 old, .int .i64 new] w fun e w' => e = .returned (.bool true) ∧ Flo P D w' B r N cs (upd v i x) nn M q st tkn gc ps G tn rt ts ∧ Mod P w w' := by
  refine (sys_swap_yes w h.sys ix old new i x hix hi hn he).mono ?_
  rintro e w' ⟨rfl, hs, hm⟩
  exact ⟨rfl, h.stepW hs hm, hm.mono h.inP.2⟩
theorem fbeg (w : World) (h : Flo P D w B r N cs v nn M q st tkn gc ps G tn rt ts) (x0 x1 x2 x3 x4 n : Int) (hU : ∀ b, w.heap.size ≤ b → P b) (hN : (N : Int) = n) (hf : n < D.K.most) (h0 : 0 ≤ x0) (h1 : 0 ≤ x1) (h2 : 0 ≤ x2) (h3 : 0 ≤ x3) (h5 : 0 ≤ x4) :
    Calls Try.prog 35 #[.pointer (some ⟨D.K.t, 0, none⟩), .int .i64 x0, .int .i64 x1, .int .i64 x2, .int .i64 x3, .int .i64 x4] w fun e w' => ∃ r' d x, e = .returned (.tuple #[.int .i64 n, .int .i64 0]) ∧ Flo P D w' B r' (N + 1) (cs ++ [.int .i64 3, .int .i64 0, .int .i64 0, .int .i64 0, .int .i64 0, .int .i64 x0, .int .i64 x1, .int .i64 x2, .int .i64 x3]) v (nn + 1) (updz M n (some d)) (updz q n x) (updz st n 1) tkn gc ps G tn rt ts ∧ Mod P w w' := by
  subst hN
  refine (sys_beg2 w h.sys h.hB x0 x1 x2 x3 x4 hf h0 h1 h2 h3 h5).mono ?_
  rintro e w' ⟨r', d, x, rfl, hr, hd, hx, hs, hm⟩
  exact ⟨r', d, x, rfl, h.stepB hU hs hr hd hx hm, hm.mono h.inP.1⟩
theorem fturn (w : World) (h : Flo P D w B r N cs v nn M q st tkn gc ps G tn rt ts) (id : Int) (d : Nat) (hi : I64 id) (hM : M id = some d) (hst : st id = 1) :
    Calls Try.prog 40 #[.pointer (some ⟨D.K.t, 0, none⟩), .int .i64 id, .int .i64 2] w fun e w' => e = .returned (.bool true) ∧ Flo P D w' B r N cs v nn M q (updz st id 2) tkn gc ps G tn rt ts ∧ Mod P w w' := by
  refine (sys_turn w h.sys id 2 d hi hM).mono ?_
  rintro e w' ⟨rfl, hs, hm⟩
  rw [if_pos ⟨hst, .inl rfl⟩] at hs
  exact ⟨by rw [decide_eq_true (⟨hst, .inl rfl⟩ : st id = 1 ∧ ((2 : Int) = 2 ∨ (2 : Int) = 3))], h.stepW hs hm, hm.mono h.inP.2⟩
theorem fsee (w : World) (h : Flo P D w B r N cs v nn M q st tkn gc ps G tn rt ts) (hg : gc = 0) :
    Calls Try.prog 31 #[.pointer (some ⟨D.g, 0, none⟩)] w fun e w' => e = .returned (sightV false 0 0 0) ∧ Flo P D w' B r N cs v nn M q st tkn 0 ps G tn rt ts ∧ Mod P w w' := by
  subst hg
  refine (see_none D.g D.gw D.gp D.n1 ps w h.gat).mono ?_
  rintro e w' ⟨rfl, hg, hm⟩
  exact ⟨rfl, h.stepG hg hm (fun _ x => .inl x), hm.mono fun b x => x ▸ h.pP.2.2.2.2.1⟩
theorem fgswap (w : World) (h : Flo P D w B r N cs v nn M q st tkn gc ps G tn rt ts) (xs xt xp s t : Int) (h0 : 0 ≤ t) (h1 : t < D.n1) (hn6 : D.n1 ≤ 6) (hs : 0 ≤ s) (hs1 : s ≤ 1099511627776) (hc : gc = 0) :
    Calls Try.prog 41 #[.pointer (some ⟨D.g, 0, none⟩), sightV false xs xt xp, .int .i64 s, .int .i64 t] w fun e w' => e = .returned (.bool true) ∧ Flo P D w' B r N cs v nn M q st tkn (s * 8 + t + 1) ps G tn rt ts ∧ Mod P w w' := by
  refine (gswap_none_yes xs xt xp s t D.g D.gw D.gp D.n1 gc ps w h.gat h0 h1 hn6 hs hs1 hc).mono ?_
  rintro e w' ⟨rfl, hg, hm⟩
  exact ⟨rfl, h.stepG hg hm (fun _ x => .inl x), hm.mono fun b x => x ▸ h.pP.2.2.2.2.1⟩
theorem fbeat (w : World) (h : Flo P D w B r N cs v nn M q st tkn gc ps G tn rt ts) (tx : Int) (t : Nat) (htx : tx = t) (ht : t < D.n1) :
    Calls Try.prog 33 #[.pointer (some ⟨D.g, 0, none⟩), .int .i64 tx] w fun e w' => ∃ ps', e = .returned (.int .i64 0) ∧ Flo P D w' B r N cs v nn M q st tkn gc ps' G tn rt ts ∧ Mod P w w' := by
  subst htx
  have hl := h.gat.2.2.2.1
  refine (beat_ok t (ps[t]'(by omega)) D.g D.gw D.gp D.n1 gc ps w h.gat ht (List.getElem?_eq_getElem (by omega))).mono ?_
  rintro e w' ⟨rfl, hg, hm⟩
  exact ⟨_, rfl, h.stepG hg hm (fun _ x => .inr x), hm.mono fun b x => x ▸ h.pP.2.2.2.2.2.1⟩
theorem fbeat_bad (w : World) (h : Flo P D w B r N cs v nn M q st tkn gc ps G tn rt ts) (t : Int) (ht : t < 0 ∨ (D.n1 : Int) ≤ t) :
    Calls Try.prog 33 #[.pointer (some ⟨D.g, 0, none⟩), .int .i64 t] w fun e w' => e = .returned (.int .i64 6) ∧ Flo P D w' B r N cs v nn M q st tkn gc ps G tn rt ts ∧ Mod P w w' := by
  refine (beat_bad t D.g D.gw D.gp D.n1 gc ps w h.gat ht).mono ?_
  rintro e w' ⟨rfl, hm⟩
  exact ⟨rfl, h.keep0 hm, hm.mono fun _ x => x.elim⟩
theorem fpulse (w : World) (h : Flo P D w B r N cs v nn M q st tkn gc ps G tn rt ts) (tx : Int) (t : Nat) (x : Int) (htx : tx = t) (ht : t < D.n1) (hx : ps[t]? = some x) :
    Calls Try.prog 42 #[.pointer (some ⟨D.g, 0, none⟩), .int .i64 tx] w fun e w' => e = .returned (.int .i64 x) ∧ Flo P D w' B r N cs v nn M q st tkn gc ps G tn rt ts ∧ Mod P w w' := by
  subst htx
  refine (pulse_ok t x D.g D.gw D.gp D.n1 gc ps w h.gat ht hx).mono ?_
  rintro e w' ⟨rfl, rfl⟩
  exact ⟨rfl, h, Mod.refl _ _⟩
theorem ftake (w : World) (h : Flo P D w B r N cs v nn M q st tkn gc ps G tn rt ts) (n : Int) (hn : tkn = n) (h0 : 0 ≤ n) (hnm : n < D.c3) (hm : D.c3 ≤ 255) :
    Calls Try.prog 32 #[.pointer (some ⟨D.tk, 0, none⟩)] w fun e w' => e = .returned (.tuple #[.int .i64 n, .int .i64 0]) ∧ Flo P D w' B r N cs v nn M q st (n + 1) gc ps G tn rt ts ∧ Mod P w w' := by
  subst hn
  refine (take_calls D.tk tkn D.c3 w h.tck h0 hnm hm).mono ?_
  rintro e w' ⟨rfl, ht, hm⟩
  exact ⟨rfl, h.stepT ht hm, hm.mono fun b x => x ▸ h.pP.2.2.1⟩
theorem ftake_none (w : World) (h : Flo P D w B r N cs v nn M q st tkn gc ps G tn rt ts) (hnm : D.c3 ≤ tkn) :
    Calls Try.prog 32 #[.pointer (some ⟨D.tk, 0, none⟩)] w fun e w' => e = .returned (.tuple #[.int .i64 0, .int .i64 5]) ∧ Flo P D w' B r N cs v nn M q st tkn gc ps G tn rt ts ∧ Mod P w w' := by
  refine (take_none D.tk tkn D.c3 w h.tck hnm).mono ?_
  rintro e w' ⟨rfl, hm⟩
  exact ⟨rfl, h.keep0 hm, hm.mono fun _ x => x.elim⟩
theorem ftaken (w : World) (h : Flo P D w B r N cs v nn M q st tkn gc ps G tn rt ts) (n : Int) (hn : tkn = n) :
    Calls Try.prog 30 #[.pointer (some ⟨D.tk, 0, none⟩)] w fun e w' => e = .returned (.int .i64 n) ∧ Flo P D w' B r N cs v nn M q st tkn gc ps G tn rt ts ∧ Mod P w w' := by
  subst hn
  refine (taken_calls D.tk tkn D.c3 w h.tck).mono ?_
  rintro e w' ⟨rfl, rfl⟩
  exact ⟨rfl, h, Mod.refl _ _⟩
theorem fcount (w : World) (h : Flo P D w B r N cs v nn M q st tkn gc ps G tn rt ts) (hn : nn = 0) :
    Calls Try.prog 28 #[.pointer (some ⟨D.K.t, 0, none⟩)] w fun e w' => e = .returned (.int .i64 0) ∧ Flo P D w' B r N cs v nn M q st tkn gc ps G tn rt ts ∧ Mod P w w' := by
  subst hn
  refine (count_zero D.K.t D.K.a D.K.m M w h.sys.tab h.sys.map).mono ?_
  rintro e w' ⟨rfl, hm⟩
  exact ⟨rfl, h.keep0 hm, hm.mono fun _ x => x.elim⟩
theorem falen (w : World) (h : Flo P D w B r N cs v nn M q st tkn gc ps G tn rt ts) (n : Int) (hn : (N : Int) = n) :
    Calls Try.prog 26 #[.pointer (some ⟨D.K.a, 0, none⟩)] w fun e w' => e = .returned (.int .i64 n) ∧ Flo P D w' B r N cs v nn M q st tkn gc ps G tn rt ts ∧ Mod P w w' := by
  subst hn
  refine (alen_rec D.K.a r N D.K.most cs w h.sys.cf.arn).mono ?_
  rintro e w' ⟨rfl, hm⟩
  exact ⟨rfl, h.keep0 hm, hm.mono fun _ x => x.elim⟩
theorem faleft (w : World) (h : Flo P D w B r N cs v nn M q st tkn gc ps G tn rt ts) (n : Int) (hn : D.K.most - (N : Int) = n) :
    Calls Try.prog 27 #[.pointer (some ⟨D.K.a, 0, none⟩)] w fun e w' => e = .returned (.int .i64 n) ∧ Flo P D w' B r N cs v nn M q st tkn gc ps G tn rt ts ∧ Mod P w w' := by
  subst hn
  refine (aleft_rec D.K.a r N D.K.most cs w h.sys.cf.arn h.sys.fit h.sys.m4).mono ?_
  rintro e w' ⟨rfl, hm⟩
  exact ⟨rfl, h.keep0 hm, hm.mono fun _ x => x.elim⟩
theorem fobj (w : World) (h : Flo P D w B r N cs v nn M q st tkn gc ps G tn rt ts) (n : Int) (hn : (D.K.k : Int) = n) :
    Calls Try.prog 29 #[.pointer (some ⟨D.K.c, 0, none⟩)] w fun e w' => e = .returned (.int .i64 n) ∧ Flo P D w' B r N cs v nn M q st tkn gc ps G tn rt ts ∧ Mod P w w' := by
  subst hn
  refine (obj_calls D.K.c D.K.a D.K.rc D.K.k D.K.ws w h.sys.cf.cls).mono ?_
  rintro e w' ⟨rfl, hm⟩
  exact ⟨rfl, h.keep0 hm, hm.mono fun _ x => x.elim⟩
theorem fnote (w : World) (h : Flo P D w B r N cs v nn M q st tkn gc ps G tn rt ts) (x : Nat → Int) (hU : ∀ b, w.heap.size ≤ b → P b) (hn : tn ≤ 1000) :
    Calls Try.prog 12 #[.pointer (some ⟨D.p, 0, none⟩), .agg #[.int .i64 (x 0), .int .i64 (x 1), .int .i64 (x 2), .int .i64 (x 3), .int .i64 (x 4), .int .i64 (x 5), .int .i64 (x 6)]] w fun e w' => ∃ rt', e = .returned (.tuple #[]) ∧ Flo P D w' B r N cs v nn M q st tkn gc ps G (tn + 1) rt' (ts ++ evCells x) ∧ Mod P w w' := by
  refine (note_calls x D.p rt tn _ _ _ _ _ _ _ _ _ _ _ _ _ _ ts w h.flo hn).mono ?_
  rintro e w' ⟨rfl, ⟨r5, hr5, hn5, hO5⟩, hm⟩
  exact ⟨r5, rfl, h.stepN hU hO5 hr5 hm fun _ x => x, hm.mono fun b x => x.elim (fun y => y ▸ h.pP.1) (fun y => y ▸ h.pP.2.1)⟩
theorem ftrace (w : World) (h : Flo P D w B r N cs v nn M q st tkn gc ps G tn rt ts) (l : List (Nat → Int)) (hts : ts = evs l) (hl : l.length = tn) (hn : tn ≤ 1000) :
    Calls Try.prog 13 #[.pointer (some ⟨D.p, 0, none⟩)] w fun e w' => ∃ z, e = .returned z ∧ LocRow w' w.heap.size 38 7 z tn (evs l) ∧ Flo P D w' B r N cs v nn M q st tkn gc ps G tn rt ts ∧ Mod P w w' := by
  subst hts
  refine (trace_calls D.p rt tn _ _ _ _ _ _ _ _ _ _ _ _ _ _ l w h.flo hl hn).mono ?_
  rintro e w' ⟨z, rfl, hz, hm⟩
  exact ⟨z, rfl, hz, h.keep0 hm, hm.mono fun _ x => x.elim⟩
theorem fdraw (w : World) (h : Flo P D w B r N cs v nn M q st tkn gc ps G tn rt ts) (tx x : Int) (t : Nat) (htx : tx = t) (ht : t < D.n1) (hnd : 0 < D.nd) (hnd2 : D.nd ≤ 1000) (hl : D.ld.length = D.nd) (hG : G t ≤ 100000) (hb : ∀ x ∈ D.ld, 0 ≤ x ∧ x ≤ 255) (hx : D.ld.getD (G t % D.nd) 0 = x) :
    Calls Try.prog 11 #[.pointer (some ⟨D.p, 0, none⟩), .int .i64 tx] w fun e w' => e = .returned (.int .i64 x) ∧ Flo P D w' B r N cs v nn M q st tkn gc ps (upd G t (G t + 1)) tn rt ts ∧ Mod P w w' := by
  obtain ⟨s, hp⟩ := h.blk
  refine (draw_yesZ D.p D.rp D.n1 D.nd D.cc t B tx x D.Ac _ _ _ _ _ _ _ _ _ _ _ _ _ D.ld G w htx hp h.drw hl h.drn ht hnd hnd2 hG hb hx).mono ?_
  rintro e w' ⟨rfl, hd, hm⟩
  exact ⟨rfl, h.stepD hd hm, hm.mono fun b x => x ▸ h.pP.2.2.2.2.2.2⟩
theorem fdraw_no (w : World) (h : Flo P D w B r N cs v nn M q st tkn gc ps G tn rt ts) (t : Int) (ht : t < 0 ∨ (D.n1 : Int) ≤ t ∨ D.nd = 0) :
    Calls Try.prog 11 #[.pointer (some ⟨D.p, 0, none⟩), .int .i64 t] w fun e w' => e = .returned (.int .i64 0) ∧ Flo P D w' B r N cs v nn M q st tkn gc ps G tn rt ts ∧ Mod P w w' := by
  obtain ⟨s, hp⟩ := h.blk
  refine (draw_no D.p D.n1 D.nd D.cc t D.Ac _ _ _ _ _ _ _ _ _ _ _ _ _ s w hp ht).mono ?_
  rintro e w' ⟨rfl, hm⟩
  exact ⟨rfl, h.keep0 hm, hm.mono fun _ x => x.elim⟩
set_option maxRecDepth 100000 in
set_option maxHeartbeats 2000000 in
theorem fvalues (w : World) (h : Flo P D w B r N cs v nn M q st tkn gc ps G tn rt ts) (l : List Int) (n : Nat) (hk : D.K.k = n) (hl : l.length = n) (hc : ∀ i x, l[i]? = some x → Cur cs N st (v i) x) :
    Calls Try.prog 22 #[.pointer (some ⟨D.p, 0, none⟩)] w fun e w' => ∃ z, e = .returned z ∧ LocRow w' w.heap.size 2 1 z n (l.map (Value.int .i64)) ∧ Flo P D w' B r N cs v nn M q st tkn gc ps G tn rt ts ∧ Mod P w w' := by
  have HC := hide hc
  have HL := hide hl
  have HH := hide h
  have HK := hide hk
  clear hc hl h hk
  go_enter Try.func22, Try.ntmps22
  go_wp2_with (first
    | (go_at_call 18; (with_reducible refine (fcells _ (HH.out.keep0 ((by repeat (first | with_reducible exact Mod.refl _ _ | with_reducible assumption | with_reducible refine Mod.alloc ?_ _ | with_reducible refine Mod.drew ?_ | with_reducible refine Mod.drewN ?_ _ | with_reducible refine Mod.setCell ?_ (by first | exact .inl rfl | (left; (try unfold from_); show _ ≤ _; first | omega | (simp; done) | (simp; omega)) | (right; first | omega | (simp; done) | (simp; omega))) _ | with_reducible refine Mod.call0 ?_ (by with_reducible assumption) | with_reducible refine Mod.call ?_ (by with_reducible assumption) (by first | (rintro _ rfl; first | exact .inl rfl | (right; (first | omega | (simp; done) | (simp; omega)))) | (rintro _ (rfl | rfl) <;> (right; (first | omega | (simp; done) | (simp; omega))))))) : Mod nowhere w _))).mono ?_); rintro e w5 ⟨rfl, h5, hm5⟩)
    | (go_at_call 17; (with_reducible refine (ftable _ h5).mono ?_); rintro e w6 ⟨rfl, h6, hm6⟩)
    | (go_at_call 52; (with_reducible refine (sys_all_n _ h6.sys l n HK.out HL.out HC.out).mono ?_); rintro e w7 ⟨z, rfl, hz, hs7, hm7⟩))
  go_ret
  have m5 : Mod P w w5 := Mod.trans (Mod.mono ((by repeat (first | with_reducible exact Mod.refl _ _ | with_reducible assumption | with_reducible refine Mod.alloc ?_ _ | with_reducible refine Mod.drew ?_ | with_reducible refine Mod.drewN ?_ _ | with_reducible refine Mod.setCell ?_ (by first | exact .inl rfl | (left; (try unfold from_); show _ ≤ _; first | omega | (simp; done) | (simp; omega)) | (right; first | omega | (simp; done) | (simp; omega))) _ | with_reducible refine Mod.call0 ?_ (by with_reducible assumption) | with_reducible refine Mod.call ?_ (by with_reducible assumption) (by first | (rintro _ rfl; first | exact .inl rfl | (right; (first | omega | (simp; done) | (simp; omega)))) | (rintro _ (rfl | rfl) <;> (right; (first | omega | (simp; done) | (simp; omega))))))) : Mod nowhere w _) fun _ x => x.elim) hm5
  have m6 := m5.trans hm6
  exact ⟨z, rfl, LocRow.weaken hz m6.size, h6.stepW hs7 hm7, m6.trans (hm7.mono h6.inP.2)⟩
end
end Go.Proofs.Ytcfpgecchappoaa
