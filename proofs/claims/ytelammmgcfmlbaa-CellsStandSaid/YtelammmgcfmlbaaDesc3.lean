/- The document's example of layer 3, run; no table. -/
import Derived.Test.YtelammmgcfmlbaaDesc2
import Derived.Laws.StructEq
import Derived.Outline
namespace Go.Proofs.Ytelammmgcfmlbaa
open Go.RowKit

def MadeTab (w w' : World) (most : Int) (e : Ending) : Prop :=
  ∃ a m t, e = .returned (.tuple #[.pointer (some ⟨a, 0, none⟩), .pointer (some ⟨t, 0, none⟩)]) ∧ Arn_rec w' a a 0 most [] ∧ IsTab w' t a m ∧ IsPMap w' m 0 (fun _ => none) ∧ w.heap.size ≤ a ∧ w.heap.size ≤ m ∧ w.heap.size ≤ t ∧ a ≠ m ∧ a ≠ t ∧ m ≠ t ∧ Mod nowhere w w'
set_option maxHeartbeats 1000000 in
theorem made_calls (n : Int) (w : World) (h1 : 1 ≤ n) (h2 : n ≤ 4096) :
    Calls Try.prog 13 #[.int .i64 n] w fun e w' => MadeTab w w' n e := by
  have ha := Arn.new w 109 40 9 n
  go_enter Try.func13, Try.ntmps13
  go_wp2_with (go_at_call 44; (with_reducible refine (anew_rec n _ h1 h2).mono ?_); rintro e w' ⟨rfl, rfl⟩)
  (with_reducible refine (dnew_calls _ _).mono ?_)
  rintro e w1 ⟨rfl, ht, hm, hm1⟩
  simp only [World.size_alloc] at ht hm
  go_wp2
  go_ret2
  refine ⟨_, _, _, rfl, ha.keep0 hm1, ht, hm, by omega, by omega, by omega, by omega, by omega, by omega, (by repeat (first | with_reducible exact Mod.refl _ _ | with_reducible assumption | with_reducible refine Mod.alloc ?_ _ | with_reducible refine Mod.drew ?_ | with_reducible refine Mod.drewN ?_ _ | with_reducible refine Mod.setCell ?_ (by first | exact .inl rfl | (left; (try unfold from_); show _ ≤ _; first | omega | (simp; done) | (simp; omega)) | (right; first | omega | (simp; done) | (simp; omega))) _ | with_reducible refine Mod.call0 ?_ (by with_reducible assumption) | with_reducible refine Mod.call ?_ (by with_reducible assumption) (by first | (rintro _ rfl; first | exact .inl rfl | (right; (first | omega | (simp; done) | (simp; omega)))) | (rintro _ (rfl | rfl) <;> (right; (first | omega | (simp; done) | (simp; omega)))))))⟩
set_option maxHeartbeats 2000000 in
theorem alive3_calls (w : World) :
    Calls Try.prog 12 #[] w fun en w' => en = .returned (.bool true) ∧ Mod nowhere w w' := by
  have i0 : I64 0 := by unfold I64; omega
  go_enter Try.func12, Try.ntmps12
  go_wp2_with fail
  (with_reducible refine (made_calls 9 _ (by decide) (by decide)).mono ?_)
  rintro e w1 ⟨a, m, t, rfl, ha, ht, hm, b1, b2, b3, n1, n2, n3, m1⟩
  have z1 := m1.size
  go_wp2_with fail
  (with_reducible refine (begin_calls t a a m 0 0 9 [] (fun _ => none) 0 0 1 7 0 w1 ht hm ha (by decide) (by decide) (by decide) (by omega) (by decide) (by decide) (by decide) (by decide) (by decide)).mono ?_)
  rintro e w2 ⟨rfl, ⟨hput, ht2, d, s, acc, hm2, hd2, hs2, c1, c2, c3⟩, m2⟩
  have z2 := m2.size
  have y2 : Mod nowhere w w2 := m1.call m2 (by rintro i (rfl | rfl | rfl) <;> (right; omega))
  go_wp2_with fail
  (with_reducible refine (status_calls t a m _ _ 0 d s 0 0 1 acc w2 ht2 hm2 i0 (by simp) hd2 hs2).mono ?_)
  rintro e w3 ⟨rfl, hs3, m3⟩
  have z3 := m3.size
  have lt2 := ht2.lt
  have lm2 := hm2.lt
  have ld2 := hd2.lt
  have l_s := hs2.lt
  have lt1 := ht.lt
  have lm1 := hm.lt
  have ht3 := Blk.keep ht2 m3 (by omega)
  have hm3 := hm2.keep m3 (by omega)
  have hd3 := Blk.keep hd2 m3 (by omega)
  go_wp2_with fail
  (with_reducible refine (turn_yes t a m _ _ 0 3 d s 0 0 _ w3 ht3 hm3 i0 (by simp) hd3 hs3 (.inr rfl)).mono ?_)
  rintro e w4 ⟨rfl, hs4, m4⟩
  have z4 := m4.size
  have ht4 := Blk.keep ht3 m4 (by omega)
  have hm4 := hm3.keep m4 (by omega)
  have hd4 := Blk.keep hd3 m4 (by omega)
  go_wp2_with fail
  (with_reducible refine (turn_no t a m _ _ 0 2 d s 0 0 3 _ w4 ht4 hm4 i0 (by simp) hd4 hs4 (by decide) (.inl rfl)).mono ?_)
  rintro e w5 ⟨rfl, hs5, m5⟩
  have z5 := m5.size
  have ht5 := Blk.keep ht4 m5 (by omega)
  have hm5 := hm4.keep m5 (by omega)
  have hd5 := Blk.keep hd4 m5 (by omega)
  go_wp2_with fail
  (with_reducible refine (status_calls t a m _ _ 0 d s 0 0 3 _ w5 ht5 hm5 i0 (by simp) hd5 hs5).mono ?_)
  rintro e w6 ⟨rfl, hs6, m6⟩
  go_wp2
  go_ret
  exact ⟨rfl, (by repeat (first | with_reducible exact Mod.refl _ _ | with_reducible assumption | with_reducible refine Mod.alloc ?_ _ | with_reducible refine Mod.drew ?_ | with_reducible refine Mod.drewN ?_ _ | with_reducible refine Mod.setCell ?_ (by first | exact .inl rfl | (left; (try unfold from_); show _ ≤ _; first | omega | (simp; done) | (simp; omega)) | (right; first | omega | (simp; done) | (simp; omega))) _ | with_reducible refine Mod.call0 ?_ (by with_reducible assumption) | with_reducible refine Mod.call ?_ (by with_reducible assumption) (by first | (rintro _ rfl; first | exact .inl rfl | (right; (first | omega | (simp; done) | (simp; omega)))) | (rintro _ (rfl | rfl) <;> (right; (first | omega | (simp; done) | (simp; omega)))))))⟩

set_option maxRecDepth 100000 in
set_option maxHeartbeats 2000000 in
theorem law_descNone (id to : Int) (on : Bool) (w : World) :
    Calls Try.prog 5 #[.int .i64 id, .int .i64 to, .bool on] w fun en w' => en = .returned (.bool true) ∧ Mod nowhere w w' := by
  go_enter Try.func5, Try.ntmps5
  go_wp2_with fail
  (with_reducible refine (alive3_calls _).mono ?_)
  rintro e w1 ⟨rfl, hbw1⟩
  have hzw1 := hbw1.size
  (try simp at hzw1)
  skip
  skip
  go_wp2_with fail
  (with_reducible refine (dnew_nil _).mono ?_)
  rintro e w2 ⟨rfl, hbw2⟩
  have hzw2 := hbw2.size
  (try simp at hzw2)
  skip
  skip
  go_wp2_with fail
  (with_reducible refine (begin_nil _ _ _ _ _ _).mono ?_)
  rintro e w3 ⟨rfl, hbw3⟩
  have hzw3 := hbw3.size
  (try simp at hzw3)
  skip
  skip
  go_wp2_with fail
  (with_reducible refine (rec_nil _ _).mono ?_)
  rintro e w4 ⟨rfl, hbw4⟩
  have hzw4 := hbw4.size
  (try simp at hzw4)
  skip
  skip
  go_wp2_with fail
  (with_reducible refine (status_nil _ _).mono ?_)
  rintro e w5 ⟨rfl, hbw5⟩
  have hzw5 := hbw5.size
  (try simp at hzw5)
  (try (have ltw50 : w4.heap.size < w5.heap.size := (by omega); have lcw50 := fun o => hbw5.cell (b := w4.heap.size) o (by first | omega | (simp; done) | (simp; omega)) (id); have lfw50 := fun o => hbw5.frozen (b := w4.heap.size) o (by first | omega | (simp; done) | (simp; omega)) (id)))
  skip
  go_wp2_with fail
  (with_reducible refine (turn_nil _ _ _).mono ?_)
  rintro e w6 ⟨rfl, hbw6⟩
  have hzw6 := hbw6.size
  (try simp at hzw6)
  (try (have ltw60 : w4.heap.size < w6.heap.size := (by omega); have lcw60 := fun o => hbw6.cell (b := w4.heap.size) o (by first | omega | (simp; done) | (simp; omega)) (id); have lfw60 := fun o => hbw6.frozen (b := w4.heap.size) o (by first | omega | (simp; done) | (simp; omega)) (id)))
  skip
  go_wp2_with fail
  (with_reducible refine (priority_nil _ _).mono ?_)
  rintro e w7 ⟨rfl, hbw7⟩
  have hzw7 := hbw7.size
  (try simp at hzw7)
  (try (have ltw70 : w4.heap.size < w7.heap.size := (by omega); have lcw70 := fun o => hbw7.cell (b := w4.heap.size) o (by first | omega | (simp; done) | (simp; omega)) (id); have lfw70 := fun o => hbw7.frozen (b := w4.heap.size) o (by first | omega | (simp; done) | (simp; omega)) (id)))
  skip
  go_wp2_with fail
  (with_reducible refine (raise_nil _ _).mono ?_)
  rintro e w8 ⟨rfl, hbw8⟩
  have hzw8 := hbw8.size
  (try simp at hzw8)
  (try (have ltw80 : w4.heap.size < w8.heap.size := (by omega); have lcw80 := fun o => hbw8.cell (b := w4.heap.size) o (by first | omega | (simp; done) | (simp; omega)) (id); have lfw80 := fun o => hbw8.frozen (b := w4.heap.size) o (by first | omega | (simp; done) | (simp; omega)) (id)))
  skip
  go_wp2_with fail
  (with_reducible refine (waiting_nil _ _).mono ?_)
  rintro e w9 ⟨rfl, hbw9⟩
  have hzw9 := hbw9.size
  (try simp at hzw9)
  (try (have ltw90 : w4.heap.size < w9.heap.size := (by omega); have lcw90 := fun o => hbw9.cell (b := w4.heap.size) o (by first | omega | (simp; done) | (simp; omega)) (id); have lfw90 := fun o => hbw9.frozen (b := w4.heap.size) o (by first | omega | (simp; done) | (simp; omega)) (id)))
  skip
  go_wp2_with fail
  (with_reducible refine (wait_nil _ _ _).mono ?_)
  rintro e w10 ⟨rfl, hbw10⟩
  have hzw10 := hbw10.size
  (try simp at hzw10)
  (try (have ltw100 : w4.heap.size < w10.heap.size := (by omega); have lcw100 := fun o => hbw10.cell (b := w4.heap.size) o (by first | omega | (simp; done) | (simp; omega)) (id); have lfw100 := fun o => hbw10.frozen (b := w4.heap.size) o (by first | omega | (simp; done) | (simp; omega)) (id)))
  skip
  go_wp2_with fail
  (with_reducible refine (count_nil _).mono ?_)
  rintro e w11 ⟨rfl, hbw11⟩
  have hzw11 := hbw11.size
  (try simp at hzw11)
  (try (have ltw110 : w4.heap.size < w11.heap.size := (by omega); have lcw110 := fun o => hbw11.cell (b := w4.heap.size) o (by first | omega | (simp; done) | (simp; omega)) (id); have lfw110 := fun o => hbw11.frozen (b := w4.heap.size) o (by first | omega | (simp; done) | (simp; omega)) (id)))
  skip
  go_wp2
  go_ret
  exact ⟨rfl, (by repeat (first | with_reducible exact Mod.refl _ _ | with_reducible assumption | with_reducible refine Mod.alloc ?_ _ | with_reducible refine Mod.drew ?_ | with_reducible refine Mod.drewN ?_ _ | with_reducible refine Mod.setCell ?_ (by first | exact .inl rfl | (left; (try unfold from_); show _ ≤ _; first | omega | (simp; done) | (simp; omega)) | (right; first | omega | (simp; done) | (simp; omega))) _ | with_reducible refine Mod.call0 ?_ (by with_reducible assumption) | with_reducible refine Mod.call ?_ (by with_reducible assumption) (by first | (rintro _ rfl; first | exact .inl rfl | (right; (first | omega | (simp; done) | (simp; omega)))) | (rintro _ (rfl | rfl) <;> (right; (first | omega | (simp; done) | (simp; omega)))))))⟩
end Go.Proofs.Ytelammmgcfmlbaa
