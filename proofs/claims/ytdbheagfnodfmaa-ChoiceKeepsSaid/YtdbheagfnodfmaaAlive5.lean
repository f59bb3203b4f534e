/- The document's example of layer 5, run. -/
import Derived.Test.YtdbheagfnodfmaaRef5
import Derived.Laws.StructEq
import Derived.RegionTactic
import Derived.BigRegion
import Derived.Deep.RegionHeld3
namespace Go.Proofs.Ytdbheagfnodfmaa
open Go.RowKit
theorem metF_looks {s : St} {f : Sd} (h : I64 s.looks) : I64 (metF s f).looks := by
  unfold metF; split
  · exact h
  · unfold I64; simp
theorem fld_state0 (a b c d e : Value) (w : World) : (Instr.field 23 (.agg #[a, b, c, d, e]) 0).run Try.prog w = .ok a w := by kernel_rfl

set_option maxHeartbeats 1000000 in
theorem alive5_calls (w : World) :
    Calls Try.prog 14 #[] w fun en w' => en = .returned (.bool true) ∧ Mod nowhere w w' := by
  have i0 : I64 0 := by unfold I64; omega
  have i1 : I64 1 := by unfold I64; omega
  have i2 : I64 2 := by unfold I64; omega
  have m1 : metF ⟨-1, 0, 0, 0, 0⟩ ⟨7, 0, 0, 0, false⟩ = ⟨7, 1, 0, 0, 0⟩ := by simp [metF]
  have m2 : metF ⟨7, 1, 0, 0, 0⟩ ⟨7, 0, 0, 0, false⟩ = ⟨7, 2, 0, 0, 0⟩ := by simp [metF, moreF]
  have m3 : metF ⟨7, 2, 0, 0, 0⟩ ⟨8, 0, 0, 0, false⟩ = ⟨8, 1, 0, 0, 0⟩ := by simp [metF]
  go_enter Try.func14, Try.ntmps14
  go_wp2_with fail
  (with_reducible refine (fresh_calls _).mono ?_)
  rintro e w1 ⟨rfl, hbw1⟩
  have hzw1 := hbw1.size
  (try simp at hzw1)
  skip
  skip
  go_wp2_with fail
  (with_reducible refine (met_calls _ _ _ _ _ _ _ _ _ _ _ i0).mono ?_)
  rintro e w2 ⟨rfl, hbw2⟩
  have hzw2 := hbw2.size
  (try simp at hzw2)
  skip
  rw [m1]
  go_wp2_with fail
  (with_reducible refine (met_calls _ _ _ _ _ _ _ _ _ _ _ i1).mono ?_)
  rintro e w3 ⟨rfl, hbw3⟩
  have hzw3 := hbw3.size
  (try simp at hzw3)
  (try (have ltw30 : w2.heap.size < w3.heap.size := (by omega); have lcw30 := fun o => hbw3.cell (b := w2.heap.size) o (by first | omega | (simp; done) | (simp; omega)) (id); have lfw30 := fun o => hbw3.frozen (b := w2.heap.size) o (by first | omega | (simp; done) | (simp; omega)) (id)))
  rw [m2]
  go_wp2_with fail
  (with_reducible refine (met_calls _ _ _ _ _ _ _ _ _ _ _ i2).mono ?_)
  rintro e w4 ⟨rfl, hbw4⟩
  have hzw4 := hbw4.size
  (try simp at hzw4)
  (try (have ltw40 : w2.heap.size < w4.heap.size := (by omega); have lcw40 := fun o => hbw4.cell (b := w2.heap.size) o (by first | omega | (simp; done) | (simp; omega)) (id); have lfw40 := fun o => hbw4.frozen (b := w2.heap.size) o (by first | omega | (simp; done) | (simp; omega)) (id)))
  (try (have ltw41 : w3.heap.size < w4.heap.size := (by omega); have lcw41 := fun o => hbw4.cell (b := w3.heap.size) o (by first | omega | (simp; done) | (simp; omega)) (id); have lfw41 := fun o => hbw4.frozen (b := w3.heap.size) o (by first | omega | (simp; done) | (simp; omega)) (id)))
  rw [m3]
  go_wp2_with fail
  (with_reducible refine (fresh_calls _).mono ?_)
  rintro e w5 ⟨rfl, hbw5⟩
  have hzw5 := hbw5.size
  (try simp at hzw5)
  (try (have ltw50 : w2.heap.size < w5.heap.size := (by omega); have lcw50 := fun o => hbw5.cell (b := w2.heap.size) o (by first | omega | (simp; done) | (simp; omega)) (id); have lfw50 := fun o => hbw5.frozen (b := w2.heap.size) o (by first | omega | (simp; done) | (simp; omega)) (id)))
  (try (have ltw51 : w3.heap.size < w5.heap.size := (by omega); have lcw51 := fun o => hbw5.cell (b := w3.heap.size) o (by first | omega | (simp; done) | (simp; omega)) (id); have lfw51 := fun o => hbw5.frozen (b := w3.heap.size) o (by first | omega | (simp; done) | (simp; omega)) (id)))
  (try (have ltw52 : w4.heap.size < w5.heap.size := (by omega); have lcw52 := fun o => hbw5.cell (b := w4.heap.size) o (by first | omega | (simp; done) | (simp; omega)) (id); have lfw52 := fun o => hbw5.frozen (b := w4.heap.size) o (by first | omega | (simp; done) | (simp; omega)) (id)))
  skip
  have hfld := fld_state0
  go_wp2
  go_ret
  exact ⟨rfl, (by repeat (first | with_reducible exact Mod.refl _ _ | with_reducible assumption | with_reducible refine Mod.alloc ?_ _ | with_reducible refine Mod.drew ?_ | with_reducible refine Mod.drewN ?_ _ | with_reducible refine Mod.setCell ?_ (by first | exact .inl rfl | (left; (try unfold from_); show _ ≤ _; first | omega | (simp; done) | (simp; omega)) | (right; first | omega | (simp; done) | (simp; omega))) _ | with_reducible refine Mod.call0 ?_ (by with_reducible assumption) | with_reducible refine Mod.call ?_ (by with_reducible assumption) (by rintro _ rfl; first | exact .inl rfl | (right; (first | omega | (simp; done) | (simp; omega))))))⟩

set_option maxHeartbeats 1000000 in
theorem law_met (a b c d e f g h i : Int) (j : Bool) (p n : Int) (w : World) (hb : I64 b) (he : I64 e) :
    Calls Try.prog 3 #[.agg #[.int .i64 a, .int .i64 b, .int .i64 c, .int .i64 d, .int .i64 e], .agg #[.int .i64 f, .int .i64 g, .int .i64 h, .int .i64 i, .bool j], .int .i64 p, .int .i64 n] w
     fun en w' => en = .returned (.bool true) ∧ Mod nowhere w w' := by
  go_enter Try.func3, Try.ntmps3
  go_wp2_with fail
  (with_reducible refine (alive5_calls _).mono ?_)
  rintro e w1 ⟨rfl, hbw1⟩
  have hzw1 := hbw1.size
  (try simp at hzw1)
  (try (have ltw10 : w.heap.size < w1.heap.size := (by omega); have lcw10 := fun o => hbw1.cell (b := w.heap.size) o (by first | omega | (simp; done) | (simp; omega)) (id); have lfw10 := fun o => hbw1.frozen (b := w.heap.size) o (by first | omega | (simp; done) | (simp; omega)) (id)))
  (try (have ltw11 : w.heap.size + 1 < w1.heap.size := (by omega); have lcw11 := fun o => hbw1.cell (b := w.heap.size + 1) o (by first | omega | (simp; done) | (simp; omega)) (id); have lfw11 := fun o => hbw1.frozen (b := w.heap.size + 1) o (by first | omega | (simp; done) | (simp; omega)) (id)))
  skip
  go_wp2_with fail
  (with_reducible refine (plain_calls _ _ _ _ _ _).mono ?_)
  rintro e w2 ⟨rfl, hbw2⟩
  have hzw2 := hbw2.size
  (try simp at hzw2)
  (try (have ltw20 : w.heap.size < w2.heap.size := (by omega); have lcw20 := fun o => hbw2.cell (b := w.heap.size) o (by first | omega | (simp; done) | (simp; omega)) (id); have lfw20 := fun o => hbw2.frozen (b := w.heap.size) o (by first | omega | (simp; done) | (simp; omega)) (id)))
  (try (have ltw21 : w.heap.size + 1 < w2.heap.size := (by omega); have lcw21 := fun o => hbw2.cell (b := w.heap.size + 1) o (by first | omega | (simp; done) | (simp; omega)) (id); have lfw21 := fun o => hbw2.frozen (b := w.heap.size + 1) o (by first | omega | (simp; done) | (simp; omega)) (id)))
  skip
  go_wp2_with fail
  (with_reducible refine (met_calls _ _ _ _ _ _ _ _ _ _ _ hb).mono ?_)
  rintro e w3 ⟨rfl, hbw3⟩
  have hzw3 := hbw3.size
  (try simp at hzw3)
  (try (have ltw30 : w.heap.size < w3.heap.size := (by omega); have lcw30 := fun o => hbw3.cell (b := w.heap.size) o (by first | omega | (simp; done) | (simp; omega)) (id); have lfw30 := fun o => hbw3.frozen (b := w.heap.size) o (by first | omega | (simp; done) | (simp; omega)) (id)))
  (try (have ltw31 : w.heap.size + 1 < w3.heap.size := (by omega); have lcw31 := fun o => hbw3.cell (b := w.heap.size + 1) o (by first | omega | (simp; done) | (simp; omega)) (id); have lfw31 := fun o => hbw3.frozen (b := w.heap.size + 1) o (by first | omega | (simp; done) | (simp; omega)) (id)))
  (try (have ltw32 : w2.heap.size < w3.heap.size := (by omega); have lcw32 := fun o => hbw3.cell (b := w2.heap.size) o (by first | omega | (simp; done) | (simp; omega)) (id); have lfw32 := fun o => hbw3.frozen (b := w2.heap.size) o (by first | omega | (simp; done) | (simp; omega)) (id)))
  skip
  go_wp2_with fail
  (with_reducible refine (refmet_calls a b c d e _ _ _ _ ?hg hb j g h).mono ?_)
  case hg => exact (by repeat (first | with_reducible assumption | with_reducible apply Blk.new | with_reducible exact Blk.newAt (by first | rfl | (simp; done) | (simp; omega)) | with_reducible apply Blk.alloc | with_reducible apply Blk.drew | with_reducible apply Blk.drewN | with_reducible apply Blk.keep0 (hm := by with_reducible assumption) | with_reducible apply Blk.keep (hm := by with_reducible assumption) (hg := by omega) | with_reducible apply Blk.far (hp := by first | omega | (simp; done) | (simp; omega)) | with_reducible apply Blk.set1 | rfl))
  rintro en w4 ⟨rfl, hk4, hm4⟩
  have hz4 := hm4.size
  (try simp at hz4)
  have hm := metF_looks (f := ⟨f, g, h, i, j⟩) (s := ⟨a, b, c, d, e⟩) he
  generalize metF ⟨a, b, c, d, e⟩ ⟨f, g, h, i, j⟩ = m at *
  obtain ⟨m0, m1, m2, m3, m4⟩ := m
  simp only [Value.cells] at hk4
  obtain ⟨k0, k1, k2, k3, k4⟩ := hk4.cells5
  have kf := hk4.unfrozen
  (try (have ltw40 : w.heap.size < w4.heap.size := (by omega); have lcw40 := fun o => hm4.cell (b := w.heap.size) o (by first | omega | (simp; done) | (simp; omega)) (by omega); have lfw40 := fun o => hm4.frozen (b := w.heap.size) o (by first | omega | (simp; done) | (simp; omega)) (by omega)))
  (try (have ltw41 : w.heap.size + 1 < w4.heap.size := (by omega); have lcw41 := fun o => hm4.cell (b := w.heap.size + 1) o (by first | omega | (simp; done) | (simp; omega)) (by omega); have lfw41 := fun o => hm4.frozen (b := w.heap.size + 1) o (by first | omega | (simp; done) | (simp; omega)) (by omega)))
  (try (have ltw42 : w3.heap.size < w4.heap.size := (by omega); have lcw42 := fun o => hm4.cell (b := w3.heap.size) o (by first | omega | (simp; done) | (simp; omega)) (by omega); have lfw42 := fun o => hm4.frozen (b := w3.heap.size) o (by first | omega | (simp; done) | (simp; omega)) (by omega)))
  have l2 : w2.heap.size < w4.heap.size := by omega
  go_wp2_with fail
  go_region_held3 (fun w' => w'.cell? ⟨w2.heap.size, 0, none⟩ = some (.int .i64 m0) ∧ w'.cell? ⟨w2.heap.size, 1, none⟩ = some (.int .i64 m1) ∧ w'.cell? ⟨w2.heap.size, 2, none⟩ = some (.int .i64 m2) ∧ w'.cell? ⟨w2.heap.size, 3, none⟩ = some (.int .i64 m3) ∧ w'.cell? ⟨w2.heap.size, 4, none⟩ = some (.int .i64 m4) ∧ w'.cell? ⟨w3.heap.size, 0, none⟩ = some (.int .i64 m0) ∧ w'.cell? ⟨w3.heap.size, 1, none⟩ = some (.int .i64 m1) ∧ w'.cell? ⟨w3.heap.size, 2, none⟩ = some (.int .i64 m2) ∧ w'.cell? ⟨w3.heap.size, 3, none⟩ = some (.int .i64 m3) ∧ w'.cell? ⟨w3.heap.size, 4, none⟩ = some (.int .i64 m4) ∧ Mod nowhere w4 w') ((repeat' apply And.intro) <;> first | (simp [*]; done) | (go_simp; done) | exact (by repeat (first | with_reducible exact Mod.refl _ _ | with_reducible assumption | with_reducible refine Mod.alloc ?_ _ | with_reducible refine Mod.drew ?_ | with_reducible refine Mod.drewN ?_ _ | with_reducible refine Mod.setCell ?_ (by first | exact .inl rfl | (left; (try unfold from_); show _ ≤ _; first | omega | (simp; done) | (simp; omega)) | (right; first | omega | (simp; done) | (simp; omega))) _ | with_reducible refine Mod.call0 ?_ (by with_reducible assumption) | with_reducible refine Mod.call ?_ (by with_reducible assumption) (by rintro _ rfl; first | exact .inl rfl | (right; (first | omega | (simp; done) | (simp; omega))))))) (first | (go_at_call 15; (with_reducible refine (plain_calls _ _ _ _ _ _).mono ?_); rintro e w5 ⟨rfl, hbw5⟩; have hzw5 := hbw5.size; (try simp at hzw5); (try (have ltw50 : w.heap.size < w5.heap.size := (by omega); have lcw50 := fun o => hbw5.cell (b := w.heap.size) o (by first | omega | (simp; done) | (simp; omega)) (id); have lfw50 := fun o => hbw5.frozen (b := w.heap.size) o (by first | omega | (simp; done) | (simp; omega)) (id))); (try (have ltw51 : w.heap.size + 1 < w5.heap.size := (by omega); have lcw51 := fun o => hbw5.cell (b := w.heap.size + 1) o (by first | omega | (simp; done) | (simp; omega)) (id); have lfw51 := fun o => hbw5.frozen (b := w.heap.size + 1) o (by first | omega | (simp; done) | (simp; omega)) (id))); (try (have ltw52 : w2.heap.size < w5.heap.size := (by omega); have lcw52 := fun o => hbw5.cell (b := w2.heap.size) o (by first | omega | (simp; done) | (simp; omega)) (id); have lfw52 := fun o => hbw5.frozen (b := w2.heap.size) o (by first | omega | (simp; done) | (simp; omega)) (id))); (try (have ltw53 : w3.heap.size < w5.heap.size := (by omega); have lcw53 := fun o => hbw5.cell (b := w3.heap.size) o (by first | omega | (simp; done) | (simp; omega)) (id); have lfw53 := fun o => hbw5.frozen (b := w3.heap.size) o (by first | omega | (simp; done) | (simp; omega)) (id))); skip))
  go_wp2_with fail
  (with_reducible refine (look_calls _ _ _ _ _ _ _ _ hm).mono ?_)
  rintro e w6 ⟨rfl, hbw6⟩
  have hzw6 := hbw6.size
  (try simp at hzw6)
  (try (have ltw60 : w2.heap.size < w6.heap.size := (by omega); have lcw60 := fun o => hbw6.cell (b := w2.heap.size) o (by first | omega | (simp; done) | (simp; omega)) (id); have lfw60 := fun o => hbw6.frozen (b := w2.heap.size) o (by first | omega | (simp; done) | (simp; omega)) (id)))
  skip
  go_wp2_with fail
  (with_reducible refine (reflook_calls m0 m1 m2 m3 m4 _ _ _ _ ?hg2 hm).mono ?_)
  case hg2 => exact (by repeat (first | with_reducible assumption | with_reducible apply Blk.new | with_reducible exact Blk.newAt (by first | rfl | (simp; done) | (simp; omega)) | with_reducible apply Blk.alloc | with_reducible apply Blk.drew | with_reducible apply Blk.drewN | with_reducible apply Blk.keep0 (hm := by with_reducible assumption) | with_reducible apply Blk.keep (hm := by with_reducible assumption) (hg := by omega) | with_reducible apply Blk.far (hp := by first | omega | (simp; done) | (simp; omega)) | with_reducible apply Blk.set1 | rfl))
  rintro en w7 ⟨rfl, hk7, hm7⟩
  have hzw7 := hm7.size
  (try simp at hzw7)
  generalize lookF ⟨m0, m1, m2, m3, m4⟩ p = m at *
  obtain ⟨n0, n1, n2, n3, n4⟩ := m
  simp only [Value.cells] at hk7
  obtain ⟨q0, q1, q2, q3, q4⟩ := hk7.cells5
  (try (have ltw70 : w6.heap.size < w7.heap.size := (by omega); have lcw70 := fun o => hm7.cell (b := w6.heap.size) o (by first | omega | (simp; done) | (simp; omega)) (by omega); have lfw70 := fun o => hm7.frozen (b := w6.heap.size) o (by first | omega | (simp; done) | (simp; omega)) (by omega)))
  have l2' : w2.heap.size < w7.heap.size := by omega
  go_wp2_with fail
  go_region_held3 (fun w' => w'.cell? ⟨w2.heap.size, 0, none⟩ = some (.int .i64 n0) ∧ w'.cell? ⟨w2.heap.size, 1, none⟩ = some (.int .i64 n1) ∧ w'.cell? ⟨w2.heap.size, 2, none⟩ = some (.int .i64 n2) ∧ w'.cell? ⟨w2.heap.size, 3, none⟩ = some (.int .i64 n3) ∧ w'.cell? ⟨w2.heap.size, 4, none⟩ = some (.int .i64 n4) ∧ w'.cell? ⟨w6.heap.size, 0, none⟩ = some (.int .i64 n0) ∧ w'.cell? ⟨w6.heap.size, 1, none⟩ = some (.int .i64 n1) ∧ w'.cell? ⟨w6.heap.size, 2, none⟩ = some (.int .i64 n2) ∧ w'.cell? ⟨w6.heap.size, 3, none⟩ = some (.int .i64 n3) ∧ w'.cell? ⟨w6.heap.size, 4, none⟩ = some (.int .i64 n4) ∧ Mod nowhere w7 w') ((repeat' apply And.intro) <;> first | (simp [*]; done) | (go_simp; done) | exact (by repeat (first | with_reducible exact Mod.refl _ _ | with_reducible assumption | with_reducible refine Mod.alloc ?_ _ | with_reducible refine Mod.drew ?_ | with_reducible refine Mod.drewN ?_ _ | with_reducible refine Mod.setCell ?_ (by first | exact .inl rfl | (left; (try unfold from_); show _ ≤ _; first | omega | (simp; done) | (simp; omega)) | (right; first | omega | (simp; done) | (simp; omega))) _ | with_reducible refine Mod.call0 ?_ (by with_reducible assumption) | with_reducible refine Mod.call ?_ (by with_reducible assumption) (by rintro _ rfl; first | exact .inl rfl | (right; (first | omega | (simp; done) | (simp; omega))))))) (first | (go_at_call 15; (with_reducible refine (plain_calls _ _ _ _ _ _).mono ?_); rintro e w8 ⟨rfl, hbw8⟩; have hzw8 := hbw8.size; (try simp at hzw8); (try (have ltw80 : w2.heap.size < w8.heap.size := (by omega); have lcw80 := fun o => hbw8.cell (b := w2.heap.size) o (by first | omega | (simp; done) | (simp; omega)) (id); have lfw80 := fun o => hbw8.frozen (b := w2.heap.size) o (by first | omega | (simp; done) | (simp; omega)) (id))); (try (have ltw81 : w6.heap.size < w8.heap.size := (by omega); have lcw81 := fun o => hbw8.cell (b := w6.heap.size) o (by first | omega | (simp; done) | (simp; omega)) (id); have lfw81 := fun o => hbw8.frozen (b := w6.heap.size) o (by first | omega | (simp; done) | (simp; omega)) (id))); skip))
  go_wp2
  go_ret
  exact ⟨rfl, (by repeat (first | with_reducible exact Mod.refl _ _ | with_reducible assumption | with_reducible refine Mod.alloc ?_ _ | with_reducible refine Mod.drew ?_ | with_reducible refine Mod.drewN ?_ _ | with_reducible refine Mod.setCell ?_ (by first | exact .inl rfl | (left; (try unfold from_); show _ ≤ _; first | omega | (simp; done) | (simp; omega)) | (right; first | omega | (simp; done) | (simp; omega))) _ | with_reducible refine Mod.call0 ?_ (by with_reducible assumption) | with_reducible refine Mod.call ?_ (by with_reducible assumption) (by rintro _ rfl; first | exact .inl rfl | (right; (first | omega | (simp; done) | (simp; omega))))))⟩
end Go.Proofs.Ytdbheagfnodfmaa
