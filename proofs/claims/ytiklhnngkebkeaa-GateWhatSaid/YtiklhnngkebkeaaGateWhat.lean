/- What is done by what is seen, and the document's: the law GateWhat, walked. -/
import Derived.Test.YtiklhnngkebkeaaGateN
import Derived.Test.YtiklhnngkebkeaaRef5
namespace Go.Proofs.Ytiklhnngkebkeaa
open Go.RowKit

abbrev RSt (w : World) (g : Nat) (a b c d e : Int) : Prop := Blk w g 29 #[.int .i64 a, .int .i64 b, .int .i64 c, .int .i64 d, .int .i64 e]
set_option maxHeartbeats 1000000 in
theorem rwhat_one (g : Nat) (a b c d e : Int) (some : Bool) (seen pulse stamp wait : Int) (w : World) (hg : RSt w g a b c d e) (h : some = false ∨ stamp < seen) :
    Calls Try.prog 12 #[.pointer (.some ⟨g, 0, none⟩), .bool some, .int .i64 seen, .int .i64 pulse, .int .i64 stamp, .int .i64 wait, .bool true] w
     fun en w' => en = .returned (.int .i64 1) ∧ RSt w' g a b c d e ∧ Mod (· = g) w w' := by
  cases some
  · go_enter Try.func12, Try.ntmps12
    go_wp2
    go_ret
    exact ⟨rfl, hg, (by repeat (first | with_reducible exact Mod.refl _ _ | with_reducible assumption | with_reducible refine Mod.alloc ?_ _ | with_reducible refine Mod.drew ?_ | with_reducible refine Mod.drewN ?_ _ | with_reducible refine Mod.setCell ?_ (by first | exact .inl rfl | (left; (try unfold from_); show _ ≤ _; first | omega | (simp; done) | (simp; omega)) | (right; first | omega | (simp; done) | (simp; omega))) _ | with_reducible refine Mod.call0 ?_ (by with_reducible assumption) | with_reducible refine Mod.call ?_ (by with_reducible assumption) (by first | (rintro _ rfl; first | exact .inl rfl | (right; (first | omega | (simp; done) | (simp; omega)))) | (rintro _ (rfl | rfl) <;> (right; (first | omega | (simp; done) | (simp; omega)))))))⟩
  · have h' : stamp < seen := by simpa using h
    have q1 : (seen == stamp) = false := beq_eq_false_iff_ne.2 (by omega)
    clear h
    go_enter Try.func12, Try.ntmps12
    go_wp2
    go_ret
    exact ⟨rfl, hg, (by repeat (first | with_reducible exact Mod.refl _ _ | with_reducible assumption | with_reducible refine Mod.alloc ?_ _ | with_reducible refine Mod.drew ?_ | with_reducible refine Mod.drewN ?_ _ | with_reducible refine Mod.setCell ?_ (by first | exact .inl rfl | (left; (try unfold from_); show _ ≤ _; first | omega | (simp; done) | (simp; omega)) | (right; first | omega | (simp; done) | (simp; omega))) _ | with_reducible refine Mod.call0 ?_ (by with_reducible assumption) | with_reducible refine Mod.call ?_ (by with_reducible assumption) (by first | (rintro _ rfl; first | exact .inl rfl | (right; (first | omega | (simp; done) | (simp; omega)))) | (rintro _ (rfl | rfl) <;> (right; (first | omega | (simp; done) | (simp; omega)))))))⟩
set_option maxHeartbeats 1000000 in
theorem rwhat_two (g : Nat) (a b c d e : Int) (some : Bool) (seen pulse stamp wait : Int) (w : World) (hg : RSt w g a b c d e) (h : some = false ∨ stamp < seen) :
    Calls Try.prog 12 #[.pointer (.some ⟨g, 0, none⟩), .bool some, .int .i64 seen, .int .i64 pulse, .int .i64 stamp, .int .i64 wait, .bool false] w
     fun en w' => en = .returned (.int .i64 2) ∧ RSt w' g a b c d e ∧ Mod (· = g) w w' := by
  cases some
  · go_enter Try.func12, Try.ntmps12
    go_wp2
    go_ret
    exact ⟨rfl, hg, (by repeat (first | with_reducible exact Mod.refl _ _ | with_reducible assumption | with_reducible refine Mod.alloc ?_ _ | with_reducible refine Mod.drew ?_ | with_reducible refine Mod.drewN ?_ _ | with_reducible refine Mod.setCell ?_ (by first | exact .inl rfl | (left; (try unfold from_); show _ ≤ _; first | omega | (simp; done) | (simp; omega)) | (right; first | omega | (simp; done) | (simp; omega))) _ | with_reducible refine Mod.call0 ?_ (by with_reducible assumption) | with_reducible refine Mod.call ?_ (by with_reducible assumption) (by first | (rintro _ rfl; first | exact .inl rfl | (right; (first | omega | (simp; done) | (simp; omega)))) | (rintro _ (rfl | rfl) <;> (right; (first | omega | (simp; done) | (simp; omega)))))))⟩
  · have h' : stamp < seen := by simpa using h
    clear h
    go_enter Try.func12, Try.ntmps12
    go_wp2
    go_ret
    exact ⟨rfl, hg, (by repeat (first | with_reducible exact Mod.refl _ _ | with_reducible assumption | with_reducible refine Mod.alloc ?_ _ | with_reducible refine Mod.drew ?_ | with_reducible refine Mod.drewN ?_ _ | with_reducible refine Mod.setCell ?_ (by first | exact .inl rfl | (left; (try unfold from_); show _ ≤ _; first | omega | (simp; done) | (simp; omega)) | (right; first | omega | (simp; done) | (simp; omega))) _ | with_reducible refine Mod.call0 ?_ (by with_reducible assumption) | with_reducible refine Mod.call ?_ (by with_reducible assumption) (by first | (rintro _ rfl; first | exact .inl rfl | (right; (first | omega | (simp; done) | (simp; omega)))) | (rintro _ (rfl | rfl) <;> (right; (first | omega | (simp; done) | (simp; omega)))))))⟩
set_option maxHeartbeats 1000000 in
theorem rwhat_own (g : Nat) (a b c d e : Int) (pulse stamp wait : Int) (tr : Bool) (w : World) (hg : RSt w g a b c d e) :
    Calls Try.prog 12 #[.pointer (.some ⟨g, 0, none⟩), .bool true, .int .i64 stamp, .int .i64 pulse, .int .i64 stamp, .int .i64 wait, .bool tr] w
     fun en w' => en = .returned (.int .i64 2) ∧ RSt w' g a b c d e ∧ Mod (· = g) w w' := by
  cases tr
  all_goals
    go_enter Try.func12, Try.ntmps12
    go_wp2
    go_ret
    exact ⟨rfl, hg, (by repeat (first | with_reducible exact Mod.refl _ _ | with_reducible assumption | with_reducible refine Mod.alloc ?_ _ | with_reducible refine Mod.drew ?_ | with_reducible refine Mod.drewN ?_ _ | with_reducible refine Mod.setCell ?_ (by first | exact .inl rfl | (left; (try unfold from_); show _ ≤ _; first | omega | (simp; done) | (simp; omega)) | (right; first | omega | (simp; done) | (simp; omega))) _ | with_reducible refine Mod.call0 ?_ (by with_reducible assumption) | with_reducible refine Mod.call ?_ (by with_reducible assumption) (by first | (rintro _ rfl; first | exact .inl rfl | (right; (first | omega | (simp; done) | (simp; omega)))) | (rintro _ (rfl | rfl) <;> (right; (first | omega | (simp; done) | (simp; omega)))))))⟩
set_option maxHeartbeats 1000000 in
theorem rwhat_look (g : Nat) (a b c d e : Int) (seen pulse stamp wait : Int) (tr : Bool) (w : World) (hg : RSt w g a b c d e) (h : seen < stamp) (hb : I64 b) (m0 m1 m2 m3 m4 : Int) (hM : metF ⟨a, b, c, d, e⟩ ⟨seen, 0, 0, pulse, false⟩ = ⟨m0, m1, m2, m3, m4⟩) (he : I64 m4)
    (l0 l1 l2 l3 l4 : Int) (hL : lookF ⟨m0, m1, m2, m3, m4⟩ pulse = ⟨l0, l1, l2, l3, l4⟩) :
    Calls Try.prog 12 #[.pointer (.some ⟨g, 0, none⟩), .bool true, .int .i64 seen, .int .i64 pulse, .int .i64 stamp, .int .i64 wait, .bool tr] w
     fun en w' => en = .returned (.int .i64 (goOrStay wait l4)) ∧ RSt w' g l0 l1 l2 l3 l4 ∧ Mod (· = g) w w' := by
  have HM := hide hM
  have HL := hide hL
  clear hM hL
  by_cases hw : wait < l4
  all_goals
    first | rw [show goOrStay wait l4 = 2 from if_pos hw] | rw [show goOrStay wait l4 = 3 from if_neg hw]
    go_enter Try.func12, Try.ntmps12
    go_wp2_with fail
    (with_reducible refine (refmet_calls a b c d e _ _ g _ hg hb false 0 0).mono ?_)
    rintro en w1 ⟨rfl, hk1, hm1⟩
    rw [HM.out] at hk1
    simp only [Value.cells] at hk1
    go_wp2_with fail
    (with_reducible refine (reflook_calls m0 m1 m2 m3 m4 _ _ g _ hk1 he).mono ?_)
    rintro en w2 ⟨rfl, hk2, hm2⟩
    rw [HL.out] at hk2
    rw [HL.out]
    simp only [Value.cells] at hk2
    go_wp2
    go_ret
    exact ⟨rfl, hk2, hm1.trans hm2⟩

set_option maxHeartbeats 4000000 in
theorem law_gateWhat (a b c d e : Int) (x : Bool) (xs xt xp stamp wait : Int) (tr : Bool) (w : World) (hb : I64 b) (he : I64 e) :
    Calls Try.prog 3 #[stV a b c d e, sightV x xs xt xp, .int .i64 stamp, .int .i64 wait, .bool tr] w
     fun en w' => en = .returned (.bool true) ∧ Mod nowhere w w' := by
  by_cases h1 : x = false ∨ stamp < xs
  · cases tr
    · go_enter Try.func3, Try.ntmps3
      go_wp2_with fail
      (with_reducible refine (alive10_calls _).mono ?_)
      rintro e w1 ⟨rfl, hbw1⟩
      have hzw1 := hbw1.size
      (try simp at hzw1)
      (try (have ltw10 : w.heap.size < w1.heap.size := (by omega); have lcw10 := fun o => hbw1.cell (b := w.heap.size) o (by first | omega | (simp; done) | (simp; omega)) (id); have lfw10 := fun o => hbw1.frozen (b := w.heap.size) o (by first | omega | (simp; done) | (simp; omega)) (id)))
      (try (have ltw11 : w.heap.size + 1 < w1.heap.size := (by omega); have lcw11 := fun o => hbw1.cell (b := w.heap.size + 1) o (by first | omega | (simp; done) | (simp; omega)) (id); have lfw11 := fun o => hbw1.frozen (b := w.heap.size + 1) o (by first | omega | (simp; done) | (simp; omega)) (id)))
      skip
      go_wp2_with fail
      (with_reducible refine (what_go a b c d e xs xt xp stamp wait x _ h1).mono ?_)
      rintro e w2 ⟨rfl, hbw2⟩
      have hzw2 := hbw2.size
      (try simp at hzw2)
      (try (have ltw20 : w.heap.size < w2.heap.size := (by omega); have lcw20 := fun o => hbw2.cell (b := w.heap.size) o (by first | omega | (simp; done) | (simp; omega)) (id); have lfw20 := fun o => hbw2.frozen (b := w.heap.size) o (by first | omega | (simp; done) | (simp; omega)) (id)))
      (try (have ltw21 : w.heap.size + 1 < w2.heap.size := (by omega); have lcw21 := fun o => hbw2.cell (b := w.heap.size + 1) o (by first | omega | (simp; done) | (simp; omega)) (id); have lfw21 := fun o => hbw2.frozen (b := w.heap.size + 1) o (by first | omega | (simp; done) | (simp; omega)) (id)))
      skip
      go_wp2_with fail
      (with_reducible refine (plain_calls _ _ _ _ _ _).mono ?_)
      rintro e w3 ⟨rfl, hbw3⟩
      have hzw3 := hbw3.size
      (try simp at hzw3)
      (try (have ltw30 : w.heap.size < w3.heap.size := (by omega); have lcw30 := fun o => hbw3.cell (b := w.heap.size) o (by first | omega | (simp; done) | (simp; omega)) (id); have lfw30 := fun o => hbw3.frozen (b := w.heap.size) o (by first | omega | (simp; done) | (simp; omega)) (id)))
      (try (have ltw31 : w.heap.size + 1 < w3.heap.size := (by omega); have lcw31 := fun o => hbw3.cell (b := w.heap.size + 1) o (by first | omega | (simp; done) | (simp; omega)) (id); have lfw31 := fun o => hbw3.frozen (b := w.heap.size + 1) o (by first | omega | (simp; done) | (simp; omega)) (id)))
      (try (have ltw32 : w2.heap.size < w3.heap.size := (by omega); have lcw32 := fun o => hbw3.cell (b := w2.heap.size) o (by first | omega | (simp; done) | (simp; omega)) (id); have lfw32 := fun o => hbw3.frozen (b := w2.heap.size) o (by first | omega | (simp; done) | (simp; omega)) (id)))
      skip
      go_wp2_with fail
      (with_reducible refine (rwhat_two w3.heap.size a b c d e x xs xp stamp wait _ (by exact (by repeat (first | with_reducible assumption | with_reducible apply Blk.new | with_reducible exact Blk.newAt (by first | rfl | (simp; done) | (simp; omega)) | with_reducible apply Blk.alloc | with_reducible apply Blk.drew | with_reducible apply Blk.drewN | with_reducible apply Blk.keep0 (hm := by with_reducible assumption) | with_reducible apply Blk.keep (hm := by with_reducible assumption) (hg := by first | omega | exact not_two (by omega) (by omega)) | with_reducible apply Blk.far (hp := by first | omega | (simp; done) | (simp; omega)) | with_reducible apply Blk.set1 | rfl))) h1).mono ?_)
      rintro e w4 ⟨rfl, hk4, hm4⟩
      have hz4 := hm4.size
      (try simp at hz4)
      have c_hk4 := hk4.cell; have f_hk4 := hk4.frozen; have l_hk4 := hk4.lt
      (try (have ltw40 : w.heap.size < w4.heap.size := (by omega); have lcw40 := fun o => hm4.cell (b := w.heap.size) o (by first | omega | (simp; done) | (simp; omega)) (by first | omega | (simp; omega)); have lfw40 := fun o => hm4.frozen (b := w.heap.size) o (by first | omega | (simp; done) | (simp; omega)) (by first | omega | (simp; omega))))
      (try (have ltw41 : w.heap.size + 1 < w4.heap.size := (by omega); have lcw41 := fun o => hm4.cell (b := w.heap.size + 1) o (by first | omega | (simp; done) | (simp; omega)) (by first | omega | (simp; omega)); have lfw41 := fun o => hm4.frozen (b := w.heap.size + 1) o (by first | omega | (simp; done) | (simp; omega)) (by first | omega | (simp; omega))))
      (try (have ltw42 : w2.heap.size < w4.heap.size := (by omega); have lcw42 := fun o => hm4.cell (b := w2.heap.size) o (by first | omega | (simp; done) | (simp; omega)) (by first | omega | (simp; omega)); have lfw42 := fun o => hm4.frozen (b := w2.heap.size) o (by first | omega | (simp; done) | (simp; omega)) (by first | omega | (simp; omega))))
      go_wp2_with fail
      go_region_held3 (fun w' => w'.cell? ⟨w2.heap.size, 0, none⟩ = some (.int .i64 a) ∧ w'.cell? ⟨w2.heap.size, 1, none⟩ = some (.int .i64 b) ∧ w'.cell? ⟨w2.heap.size, 2, none⟩ = some (.int .i64 c) ∧ w'.cell? ⟨w2.heap.size, 3, none⟩ = some (.int .i64 d) ∧ w'.cell? ⟨w2.heap.size, 4, none⟩ = some (.int .i64 e) ∧ w'.cell? ⟨w3.heap.size, 0, none⟩ = some (.int .i64 a) ∧ w'.cell? ⟨w3.heap.size, 1, none⟩ = some (.int .i64 b) ∧ w'.cell? ⟨w3.heap.size, 2, none⟩ = some (.int .i64 c) ∧ w'.cell? ⟨w3.heap.size, 3, none⟩ = some (.int .i64 d) ∧ w'.cell? ⟨w3.heap.size, 4, none⟩ = some (.int .i64 e) ∧ Mod nowhere w w') ((repeat' apply And.intro) <;> first | (simp [*]; done) | (go_simp; done) | exact (by repeat (first | with_reducible exact Mod.refl _ _ | with_reducible assumption | with_reducible refine Mod.alloc ?_ _ | with_reducible refine Mod.drew ?_ | with_reducible refine Mod.drewN ?_ _ | with_reducible refine Mod.setCell ?_ (by first | exact .inl rfl | (left; (try unfold from_); show _ ≤ _; first | omega | (simp; done) | (simp; omega)) | (right; first | omega | (simp; done) | (simp; omega))) _ | with_reducible refine Mod.call0 ?_ (by with_reducible assumption) | with_reducible refine Mod.call ?_ (by with_reducible assumption) (by first | (rintro _ rfl; first | exact .inl rfl | (right; (first | omega | (simp; done) | (simp; omega)))) | (rintro _ (rfl | rfl) <;> (right; (first | omega | (simp; done) | (simp; omega)))))))) ((go_at_call 11; (with_reducible refine (plain_calls _ _ _ _ _ _).mono ?_); rintro e w5 ⟨rfl, hbw5⟩; have hzw5 := hbw5.size; (try simp at hzw5); (try (have ltw50 : w2.heap.size < w5.heap.size := (by omega); have lcw50 := fun o => hbw5.cell (b := w2.heap.size) o (by first | omega | (simp; done) | (simp; omega)) (id); have lfw50 := fun o => hbw5.frozen (b := w2.heap.size) o (by first | omega | (simp; done) | (simp; omega)) (id))); (try (have ltw51 : w3.heap.size < w5.heap.size := (by omega); have lcw51 := fun o => hbw5.cell (b := w3.heap.size) o (by first | omega | (simp; done) | (simp; omega)) (id); have lfw51 := fun o => hbw5.frozen (b := w3.heap.size) o (by first | omega | (simp; done) | (simp; omega)) (id))); skip))
      all_goals
        go_wp2
        go_ret
        exact ⟨rfl, (by repeat (first | with_reducible exact Mod.refl _ _ | with_reducible assumption | with_reducible refine Mod.alloc ?_ _ | with_reducible refine Mod.drew ?_ | with_reducible refine Mod.drewN ?_ _ | with_reducible refine Mod.setCell ?_ (by first | exact .inl rfl | (left; (try unfold from_); show _ ≤ _; first | omega | (simp; done) | (simp; omega)) | (right; first | omega | (simp; done) | (simp; omega))) _ | with_reducible refine Mod.call0 ?_ (by with_reducible assumption) | with_reducible refine Mod.call ?_ (by with_reducible assumption) (by first | (rintro _ rfl; first | exact .inl rfl | (right; (first | omega | (simp; done) | (simp; omega)))) | (rintro _ (rfl | rfl) <;> (right; (first | omega | (simp; done) | (simp; omega)))))))⟩
    · go_enter Try.func3, Try.ntmps3
      go_wp2_with fail
      (with_reducible refine (alive10_calls _).mono ?_)
      rintro e w1 ⟨rfl, hbw1⟩
      have hzw1 := hbw1.size
      (try simp at hzw1)
      (try (have ltw10 : w.heap.size < w1.heap.size := (by omega); have lcw10 := fun o => hbw1.cell (b := w.heap.size) o (by first | omega | (simp; done) | (simp; omega)) (id); have lfw10 := fun o => hbw1.frozen (b := w.heap.size) o (by first | omega | (simp; done) | (simp; omega)) (id)))
      (try (have ltw11 : w.heap.size + 1 < w1.heap.size := (by omega); have lcw11 := fun o => hbw1.cell (b := w.heap.size + 1) o (by first | omega | (simp; done) | (simp; omega)) (id); have lfw11 := fun o => hbw1.frozen (b := w.heap.size + 1) o (by first | omega | (simp; done) | (simp; omega)) (id)))
      skip
      go_wp2_with fail
      (with_reducible refine (what_claim a b c d e xs xt xp stamp wait x _ h1).mono ?_)
      rintro e w2 ⟨rfl, hbw2⟩
      have hzw2 := hbw2.size
      (try simp at hzw2)
      (try (have ltw20 : w.heap.size < w2.heap.size := (by omega); have lcw20 := fun o => hbw2.cell (b := w.heap.size) o (by first | omega | (simp; done) | (simp; omega)) (id); have lfw20 := fun o => hbw2.frozen (b := w.heap.size) o (by first | omega | (simp; done) | (simp; omega)) (id)))
      (try (have ltw21 : w.heap.size + 1 < w2.heap.size := (by omega); have lcw21 := fun o => hbw2.cell (b := w.heap.size + 1) o (by first | omega | (simp; done) | (simp; omega)) (id); have lfw21 := fun o => hbw2.frozen (b := w.heap.size + 1) o (by first | omega | (simp; done) | (simp; omega)) (id)))
      skip
      go_wp2_with fail
      (with_reducible refine (plain_calls _ _ _ _ _ _).mono ?_)
      rintro e w3 ⟨rfl, hbw3⟩
      have hzw3 := hbw3.size
      (try simp at hzw3)
      (try (have ltw30 : w.heap.size < w3.heap.size := (by omega); have lcw30 := fun o => hbw3.cell (b := w.heap.size) o (by first | omega | (simp; done) | (simp; omega)) (id); have lfw30 := fun o => hbw3.frozen (b := w.heap.size) o (by first | omega | (simp; done) | (simp; omega)) (id)))
      (try (have ltw31 : w.heap.size + 1 < w3.heap.size := (by omega); have lcw31 := fun o => hbw3.cell (b := w.heap.size + 1) o (by first | omega | (simp; done) | (simp; omega)) (id); have lfw31 := fun o => hbw3.frozen (b := w.heap.size + 1) o (by first | omega | (simp; done) | (simp; omega)) (id)))
      (try (have ltw32 : w2.heap.size < w3.heap.size := (by omega); have lcw32 := fun o => hbw3.cell (b := w2.heap.size) o (by first | omega | (simp; done) | (simp; omega)) (id); have lfw32 := fun o => hbw3.frozen (b := w2.heap.size) o (by first | omega | (simp; done) | (simp; omega)) (id)))
      skip
      go_wp2_with fail
      (with_reducible refine (rwhat_one w3.heap.size a b c d e x xs xp stamp wait _ (by exact (by repeat (first | with_reducible assumption | with_reducible apply Blk.new | with_reducible exact Blk.newAt (by first | rfl | (simp; done) | (simp; omega)) | with_reducible apply Blk.alloc | with_reducible apply Blk.drew | with_reducible apply Blk.drewN | with_reducible apply Blk.keep0 (hm := by with_reducible assumption) | with_reducible apply Blk.keep (hm := by with_reducible assumption) (hg := by first | omega | exact not_two (by omega) (by omega)) | with_reducible apply Blk.far (hp := by first | omega | (simp; done) | (simp; omega)) | with_reducible apply Blk.set1 | rfl))) h1).mono ?_)
      rintro e w4 ⟨rfl, hk4, hm4⟩
      have hz4 := hm4.size
      (try simp at hz4)
      have c_hk4 := hk4.cell; have f_hk4 := hk4.frozen; have l_hk4 := hk4.lt
      (try (have ltw40 : w.heap.size < w4.heap.size := (by omega); have lcw40 := fun o => hm4.cell (b := w.heap.size) o (by first | omega | (simp; done) | (simp; omega)) (by first | omega | (simp; omega)); have lfw40 := fun o => hm4.frozen (b := w.heap.size) o (by first | omega | (simp; done) | (simp; omega)) (by first | omega | (simp; omega))))
      (try (have ltw41 : w.heap.size + 1 < w4.heap.size := (by omega); have lcw41 := fun o => hm4.cell (b := w.heap.size + 1) o (by first | omega | (simp; done) | (simp; omega)) (by first | omega | (simp; omega)); have lfw41 := fun o => hm4.frozen (b := w.heap.size + 1) o (by first | omega | (simp; done) | (simp; omega)) (by first | omega | (simp; omega))))
      (try (have ltw42 : w2.heap.size < w4.heap.size := (by omega); have lcw42 := fun o => hm4.cell (b := w2.heap.size) o (by first | omega | (simp; done) | (simp; omega)) (by first | omega | (simp; omega)); have lfw42 := fun o => hm4.frozen (b := w2.heap.size) o (by first | omega | (simp; done) | (simp; omega)) (by first | omega | (simp; omega))))
      go_wp2_with fail
      go_region_held3 (fun w' => w'.cell? ⟨w2.heap.size, 0, none⟩ = some (.int .i64 a) ∧ w'.cell? ⟨w2.heap.size, 1, none⟩ = some (.int .i64 b) ∧ w'.cell? ⟨w2.heap.size, 2, none⟩ = some (.int .i64 c) ∧ w'.cell? ⟨w2.heap.size, 3, none⟩ = some (.int .i64 d) ∧ w'.cell? ⟨w2.heap.size, 4, none⟩ = some (.int .i64 e) ∧ w'.cell? ⟨w3.heap.size, 0, none⟩ = some (.int .i64 a) ∧ w'.cell? ⟨w3.heap.size, 1, none⟩ = some (.int .i64 b) ∧ w'.cell? ⟨w3.heap.size, 2, none⟩ = some (.int .i64 c) ∧ w'.cell? ⟨w3.heap.size, 3, none⟩ = some (.int .i64 d) ∧ w'.cell? ⟨w3.heap.size, 4, none⟩ = some (.int .i64 e) ∧ Mod nowhere w w') ((repeat' apply And.intro) <;> first | (simp [*]; done) | (go_simp; done) | exact (by repeat (first | with_reducible exact Mod.refl _ _ | with_reducible assumption | with_reducible refine Mod.alloc ?_ _ | with_reducible refine Mod.drew ?_ | with_reducible refine Mod.drewN ?_ _ | with_reducible refine Mod.setCell ?_ (by first | exact .inl rfl | (left; (try unfold from_); show _ ≤ _; first | omega | (simp; done) | (simp; omega)) | (right; first | omega | (simp; done) | (simp; omega))) _ | with_reducible refine Mod.call0 ?_ (by with_reducible assumption) | with_reducible refine Mod.call ?_ (by with_reducible assumption) (by first | (rintro _ rfl; first | exact .inl rfl | (right; (first | omega | (simp; done) | (simp; omega)))) | (rintro _ (rfl | rfl) <;> (right; (first | omega | (simp; done) | (simp; omega)))))))) ((go_at_call 11; (with_reducible refine (plain_calls _ _ _ _ _ _).mono ?_); rintro e w5 ⟨rfl, hbw5⟩; have hzw5 := hbw5.size; (try simp at hzw5); (try (have ltw50 : w2.heap.size < w5.heap.size := (by omega); have lcw50 := fun o => hbw5.cell (b := w2.heap.size) o (by first | omega | (simp; done) | (simp; omega)) (id); have lfw50 := fun o => hbw5.frozen (b := w2.heap.size) o (by first | omega | (simp; done) | (simp; omega)) (id))); (try (have ltw51 : w3.heap.size < w5.heap.size := (by omega); have lcw51 := fun o => hbw5.cell (b := w3.heap.size) o (by first | omega | (simp; done) | (simp; omega)) (id); have lfw51 := fun o => hbw5.frozen (b := w3.heap.size) o (by first | omega | (simp; done) | (simp; omega)) (id))); skip))
      all_goals
        go_wp2
        go_ret
        exact ⟨rfl, (by repeat (first | with_reducible exact Mod.refl _ _ | with_reducible assumption | with_reducible refine Mod.alloc ?_ _ | with_reducible refine Mod.drew ?_ | with_reducible refine Mod.drewN ?_ _ | with_reducible refine Mod.setCell ?_ (by first | exact .inl rfl | (left; (try unfold from_); show _ ≤ _; first | omega | (simp; done) | (simp; omega)) | (right; first | omega | (simp; done) | (simp; omega))) _ | with_reducible refine Mod.call0 ?_ (by with_reducible assumption) | with_reducible refine Mod.call ?_ (by with_reducible assumption) (by first | (rintro _ rfl; first | exact .inl rfl | (right; (first | omega | (simp; done) | (simp; omega)))) | (rintro _ (rfl | rfl) <;> (right; (first | omega | (simp; done) | (simp; omega)))))))⟩
  · have hx : x = true := by cases x <;> simp_all
    subst hx
    have h2 : xs ≤ stamp := by simp at h1; omega
    clear h1
    by_cases h3 : xs = stamp
    · subst h3
      go_enter Try.func3, Try.ntmps3
      go_wp2_with fail
      (with_reducible refine (alive10_calls _).mono ?_)
      rintro e w1 ⟨rfl, hbw1⟩
      have hzw1 := hbw1.size
      (try simp at hzw1)
      (try (have ltw10 : w.heap.size < w1.heap.size := (by omega); have lcw10 := fun o => hbw1.cell (b := w.heap.size) o (by first | omega | (simp; done) | (simp; omega)) (id); have lfw10 := fun o => hbw1.frozen (b := w.heap.size) o (by first | omega | (simp; done) | (simp; omega)) (id)))
      (try (have ltw11 : w.heap.size + 1 < w1.heap.size := (by omega); have lcw11 := fun o => hbw1.cell (b := w.heap.size + 1) o (by first | omega | (simp; done) | (simp; omega)) (id); have lfw11 := fun o => hbw1.frozen (b := w.heap.size + 1) o (by first | omega | (simp; done) | (simp; omega)) (id)))
      skip
      go_wp2_with fail
      (with_reducible refine (what_own a b c d e xs xt xp xs wait tr _ rfl).mono ?_)
      rintro e w2 ⟨rfl, hbw2⟩
      have hzw2 := hbw2.size
      (try simp at hzw2)
      (try (have ltw20 : w.heap.size < w2.heap.size := (by omega); have lcw20 := fun o => hbw2.cell (b := w.heap.size) o (by first | omega | (simp; done) | (simp; omega)) (id); have lfw20 := fun o => hbw2.frozen (b := w.heap.size) o (by first | omega | (simp; done) | (simp; omega)) (id)))
      (try (have ltw21 : w.heap.size + 1 < w2.heap.size := (by omega); have lcw21 := fun o => hbw2.cell (b := w.heap.size + 1) o (by first | omega | (simp; done) | (simp; omega)) (id); have lfw21 := fun o => hbw2.frozen (b := w.heap.size + 1) o (by first | omega | (simp; done) | (simp; omega)) (id)))
      skip
      go_wp2_with fail
      (with_reducible refine (plain_calls _ _ _ _ _ _).mono ?_)
      rintro e w3 ⟨rfl, hbw3⟩
      have hzw3 := hbw3.size
      (try simp at hzw3)
      (try (have ltw30 : w.heap.size < w3.heap.size := (by omega); have lcw30 := fun o => hbw3.cell (b := w.heap.size) o (by first | omega | (simp; done) | (simp; omega)) (id); have lfw30 := fun o => hbw3.frozen (b := w.heap.size) o (by first | omega | (simp; done) | (simp; omega)) (id)))
      (try (have ltw31 : w.heap.size + 1 < w3.heap.size := (by omega); have lcw31 := fun o => hbw3.cell (b := w.heap.size + 1) o (by first | omega | (simp; done) | (simp; omega)) (id); have lfw31 := fun o => hbw3.frozen (b := w.heap.size + 1) o (by first | omega | (simp; done) | (simp; omega)) (id)))
      (try (have ltw32 : w2.heap.size < w3.heap.size := (by omega); have lcw32 := fun o => hbw3.cell (b := w2.heap.size) o (by first | omega | (simp; done) | (simp; omega)) (id); have lfw32 := fun o => hbw3.frozen (b := w2.heap.size) o (by first | omega | (simp; done) | (simp; omega)) (id)))
      skip
      go_wp2_with fail
      (with_reducible refine (rwhat_own w3.heap.size a b c d e xp xs wait tr _ (by exact (by repeat (first | with_reducible assumption | with_reducible apply Blk.new | with_reducible exact Blk.newAt (by first | rfl | (simp; done) | (simp; omega)) | with_reducible apply Blk.alloc | with_reducible apply Blk.drew | with_reducible apply Blk.drewN | with_reducible apply Blk.keep0 (hm := by with_reducible assumption) | with_reducible apply Blk.keep (hm := by with_reducible assumption) (hg := by first | omega | exact not_two (by omega) (by omega)) | with_reducible apply Blk.far (hp := by first | omega | (simp; done) | (simp; omega)) | with_reducible apply Blk.set1 | rfl)))).mono ?_)
      rintro e w4 ⟨rfl, hk4, hm4⟩
      have hz4 := hm4.size
      (try simp at hz4)
      have c_hk4 := hk4.cell; have f_hk4 := hk4.frozen; have l_hk4 := hk4.lt
      (try (have ltw40 : w.heap.size < w4.heap.size := (by omega); have lcw40 := fun o => hm4.cell (b := w.heap.size) o (by first | omega | (simp; done) | (simp; omega)) (by first | omega | (simp; omega)); have lfw40 := fun o => hm4.frozen (b := w.heap.size) o (by first | omega | (simp; done) | (simp; omega)) (by first | omega | (simp; omega))))
      (try (have ltw41 : w.heap.size + 1 < w4.heap.size := (by omega); have lcw41 := fun o => hm4.cell (b := w.heap.size + 1) o (by first | omega | (simp; done) | (simp; omega)) (by first | omega | (simp; omega)); have lfw41 := fun o => hm4.frozen (b := w.heap.size + 1) o (by first | omega | (simp; done) | (simp; omega)) (by first | omega | (simp; omega))))
      (try (have ltw42 : w2.heap.size < w4.heap.size := (by omega); have lcw42 := fun o => hm4.cell (b := w2.heap.size) o (by first | omega | (simp; done) | (simp; omega)) (by first | omega | (simp; omega)); have lfw42 := fun o => hm4.frozen (b := w2.heap.size) o (by first | omega | (simp; done) | (simp; omega)) (by first | omega | (simp; omega))))
      go_wp2_with fail
      go_region_held3 (fun w' => w'.cell? ⟨w2.heap.size, 0, none⟩ = some (.int .i64 a) ∧ w'.cell? ⟨w2.heap.size, 1, none⟩ = some (.int .i64 b) ∧ w'.cell? ⟨w2.heap.size, 2, none⟩ = some (.int .i64 c) ∧ w'.cell? ⟨w2.heap.size, 3, none⟩ = some (.int .i64 d) ∧ w'.cell? ⟨w2.heap.size, 4, none⟩ = some (.int .i64 e) ∧ w'.cell? ⟨w3.heap.size, 0, none⟩ = some (.int .i64 a) ∧ w'.cell? ⟨w3.heap.size, 1, none⟩ = some (.int .i64 b) ∧ w'.cell? ⟨w3.heap.size, 2, none⟩ = some (.int .i64 c) ∧ w'.cell? ⟨w3.heap.size, 3, none⟩ = some (.int .i64 d) ∧ w'.cell? ⟨w3.heap.size, 4, none⟩ = some (.int .i64 e) ∧ Mod nowhere w w') ((repeat' apply And.intro) <;> first | (simp [*]; done) | (go_simp; done) | exact (by repeat (first | with_reducible exact Mod.refl _ _ | with_reducible assumption | with_reducible refine Mod.alloc ?_ _ | with_reducible refine Mod.drew ?_ | with_reducible refine Mod.drewN ?_ _ | with_reducible refine Mod.setCell ?_ (by first | exact .inl rfl | (left; (try unfold from_); show _ ≤ _; first | omega | (simp; done) | (simp; omega)) | (right; first | omega | (simp; done) | (simp; omega))) _ | with_reducible refine Mod.call0 ?_ (by with_reducible assumption) | with_reducible refine Mod.call ?_ (by with_reducible assumption) (by first | (rintro _ rfl; first | exact .inl rfl | (right; (first | omega | (simp; done) | (simp; omega)))) | (rintro _ (rfl | rfl) <;> (right; (first | omega | (simp; done) | (simp; omega)))))))) ((go_at_call 11; (with_reducible refine (plain_calls _ _ _ _ _ _).mono ?_); rintro e w5 ⟨rfl, hbw5⟩; have hzw5 := hbw5.size; (try simp at hzw5); (try (have ltw50 : w2.heap.size < w5.heap.size := (by omega); have lcw50 := fun o => hbw5.cell (b := w2.heap.size) o (by first | omega | (simp; done) | (simp; omega)) (id); have lfw50 := fun o => hbw5.frozen (b := w2.heap.size) o (by first | omega | (simp; done) | (simp; omega)) (id))); (try (have ltw51 : w3.heap.size < w5.heap.size := (by omega); have lcw51 := fun o => hbw5.cell (b := w3.heap.size) o (by first | omega | (simp; done) | (simp; omega)) (id); have lfw51 := fun o => hbw5.frozen (b := w3.heap.size) o (by first | omega | (simp; done) | (simp; omega)) (id))); skip))
      all_goals
        go_wp2
        go_ret
        exact ⟨rfl, (by repeat (first | with_reducible exact Mod.refl _ _ | with_reducible assumption | with_reducible refine Mod.alloc ?_ _ | with_reducible refine Mod.drew ?_ | with_reducible refine Mod.drewN ?_ _ | with_reducible refine Mod.setCell ?_ (by first | exact .inl rfl | (left; (try unfold from_); show _ ≤ _; first | omega | (simp; done) | (simp; omega)) | (right; first | omega | (simp; done) | (simp; omega))) _ | with_reducible refine Mod.call0 ?_ (by with_reducible assumption) | with_reducible refine Mod.call ?_ (by with_reducible assumption) (by first | (rintro _ rfl; first | exact .inl rfl | (right; (first | omega | (simp; done) | (simp; omega)))) | (rintro _ (rfl | rfl) <;> (right; (first | omega | (simp; done) | (simp; omega)))))))⟩
    · have h4 : xs < stamp := by omega
      clear h3
      obtain ⟨m0, m1, m2, m3, m4, hM, iM⟩ : ∃ m0 m1 m2 m3 m4, metF ⟨a, b, c, d, e⟩ ⟨xs, 0, 0, xp, false⟩ = ⟨m0, m1, m2, m3, m4⟩ ∧ I64 m4 := by
        unfold metF
        split
        · exact ⟨_, _, _, _, _, rfl, he⟩
        · exact ⟨_, _, _, _, _, rfl, by unfold I64; omega⟩
      obtain ⟨l0, l1, l2, l3, l4, hL⟩ : ∃ l0 l1 l2 l3 l4, lookF ⟨m0, m1, m2, m3, m4⟩ xp = ⟨l0, l1, l2, l3, l4⟩ := by
        unfold lookF
        split
        · exact ⟨_, _, _, _, _, rfl⟩
        · exact ⟨_, _, _, _, _, rfl⟩
      have HM := hide hM
      have HL := hide hL
      clear hM hL
      go_enter Try.func3, Try.ntmps3
      go_wp2_with fail
      (with_reducible refine (alive10_calls _).mono ?_)
      rintro e w1 ⟨rfl, hbw1⟩
      have hzw1 := hbw1.size
      (try simp at hzw1)
      (try (have ltw10 : w.heap.size < w1.heap.size := (by omega); have lcw10 := fun o => hbw1.cell (b := w.heap.size) o (by first | omega | (simp; done) | (simp; omega)) (id); have lfw10 := fun o => hbw1.frozen (b := w.heap.size) o (by first | omega | (simp; done) | (simp; omega)) (id)))
      (try (have ltw11 : w.heap.size + 1 < w1.heap.size := (by omega); have lcw11 := fun o => hbw1.cell (b := w.heap.size + 1) o (by first | omega | (simp; done) | (simp; omega)) (id); have lfw11 := fun o => hbw1.frozen (b := w.heap.size + 1) o (by first | omega | (simp; done) | (simp; omega)) (id)))
      skip
      go_wp2_with fail
      (with_reducible refine (what_look a b c d e xs xt xp stamp wait tr _ h4 hb m0 m1 m2 m3 m4 HM.out iM l0 l1 l2 l3 l4 HL.out).mono ?_)
      rintro e w2 ⟨rfl, hbw2⟩
      have hzw2 := hbw2.size
      (try simp at hzw2)
      (try (have ltw20 : w.heap.size < w2.heap.size := (by omega); have lcw20 := fun o => hbw2.cell (b := w.heap.size) o (by first | omega | (simp; done) | (simp; omega)) (id); have lfw20 := fun o => hbw2.frozen (b := w.heap.size) o (by first | omega | (simp; done) | (simp; omega)) (id)))
      (try (have ltw21 : w.heap.size + 1 < w2.heap.size := (by omega); have lcw21 := fun o => hbw2.cell (b := w.heap.size + 1) o (by first | omega | (simp; done) | (simp; omega)) (id); have lfw21 := fun o => hbw2.frozen (b := w.heap.size + 1) o (by first | omega | (simp; done) | (simp; omega)) (id)))
      skip
      go_wp2_with fail
      (with_reducible refine (plain_calls _ _ _ _ _ _).mono ?_)
      rintro e w3 ⟨rfl, hbw3⟩
      have hzw3 := hbw3.size
      (try simp at hzw3)
      (try (have ltw30 : w.heap.size < w3.heap.size := (by omega); have lcw30 := fun o => hbw3.cell (b := w.heap.size) o (by first | omega | (simp; done) | (simp; omega)) (id); have lfw30 := fun o => hbw3.frozen (b := w.heap.size) o (by first | omega | (simp; done) | (simp; omega)) (id)))
      (try (have ltw31 : w.heap.size + 1 < w3.heap.size := (by omega); have lcw31 := fun o => hbw3.cell (b := w.heap.size + 1) o (by first | omega | (simp; done) | (simp; omega)) (id); have lfw31 := fun o => hbw3.frozen (b := w.heap.size + 1) o (by first | omega | (simp; done) | (simp; omega)) (id)))
      (try (have ltw32 : w2.heap.size < w3.heap.size := (by omega); have lcw32 := fun o => hbw3.cell (b := w2.heap.size) o (by first | omega | (simp; done) | (simp; omega)) (id); have lfw32 := fun o => hbw3.frozen (b := w2.heap.size) o (by first | omega | (simp; done) | (simp; omega)) (id)))
      skip
      go_wp2_with fail
      (with_reducible refine (rwhat_look w3.heap.size a b c d e xs xp stamp wait tr _ (by exact (by repeat (first | with_reducible assumption | with_reducible apply Blk.new | with_reducible exact Blk.newAt (by first | rfl | (simp; done) | (simp; omega)) | with_reducible apply Blk.alloc | with_reducible apply Blk.drew | with_reducible apply Blk.drewN | with_reducible apply Blk.keep0 (hm := by with_reducible assumption) | with_reducible apply Blk.keep (hm := by with_reducible assumption) (hg := by first | omega | exact not_two (by omega) (by omega)) | with_reducible apply Blk.far (hp := by first | omega | (simp; done) | (simp; omega)) | with_reducible apply Blk.set1 | rfl))) h4 hb m0 m1 m2 m3 m4 HM.out iM l0 l1 l2 l3 l4 HL.out).mono ?_)
      rintro e w4 ⟨rfl, hk4, hm4⟩
      have hz4 := hm4.size
      (try simp at hz4)
      have c_hk4 := hk4.cell; have f_hk4 := hk4.frozen; have l_hk4 := hk4.lt
      (try (have ltw40 : w.heap.size < w4.heap.size := (by omega); have lcw40 := fun o => hm4.cell (b := w.heap.size) o (by first | omega | (simp; done) | (simp; omega)) (by first | omega | (simp; omega)); have lfw40 := fun o => hm4.frozen (b := w.heap.size) o (by first | omega | (simp; done) | (simp; omega)) (by first | omega | (simp; omega))))
      (try (have ltw41 : w.heap.size + 1 < w4.heap.size := (by omega); have lcw41 := fun o => hm4.cell (b := w.heap.size + 1) o (by first | omega | (simp; done) | (simp; omega)) (by first | omega | (simp; omega)); have lfw41 := fun o => hm4.frozen (b := w.heap.size + 1) o (by first | omega | (simp; done) | (simp; omega)) (by first | omega | (simp; omega))))
      (try (have ltw42 : w2.heap.size < w4.heap.size := (by omega); have lcw42 := fun o => hm4.cell (b := w2.heap.size) o (by first | omega | (simp; done) | (simp; omega)) (by first | omega | (simp; omega)); have lfw42 := fun o => hm4.frozen (b := w2.heap.size) o (by first | omega | (simp; done) | (simp; omega)) (by first | omega | (simp; omega))))
      go_wp2_with fail
      go_region_held3 (fun w' => w'.cell? ⟨w2.heap.size, 0, none⟩ = some (.int .i64 l0) ∧ w'.cell? ⟨w2.heap.size, 1, none⟩ = some (.int .i64 l1) ∧ w'.cell? ⟨w2.heap.size, 2, none⟩ = some (.int .i64 l2) ∧ w'.cell? ⟨w2.heap.size, 3, none⟩ = some (.int .i64 l3) ∧ w'.cell? ⟨w2.heap.size, 4, none⟩ = some (.int .i64 l4) ∧ w'.cell? ⟨w3.heap.size, 0, none⟩ = some (.int .i64 l0) ∧ w'.cell? ⟨w3.heap.size, 1, none⟩ = some (.int .i64 l1) ∧ w'.cell? ⟨w3.heap.size, 2, none⟩ = some (.int .i64 l2) ∧ w'.cell? ⟨w3.heap.size, 3, none⟩ = some (.int .i64 l3) ∧ w'.cell? ⟨w3.heap.size, 4, none⟩ = some (.int .i64 l4) ∧ Mod nowhere w w') ((repeat' apply And.intro) <;> first | (simp [*]; done) | (go_simp; done) | exact (by repeat (first | with_reducible exact Mod.refl _ _ | with_reducible assumption | with_reducible refine Mod.alloc ?_ _ | with_reducible refine Mod.drew ?_ | with_reducible refine Mod.drewN ?_ _ | with_reducible refine Mod.setCell ?_ (by first | exact .inl rfl | (left; (try unfold from_); show _ ≤ _; first | omega | (simp; done) | (simp; omega)) | (right; first | omega | (simp; done) | (simp; omega))) _ | with_reducible refine Mod.call0 ?_ (by with_reducible assumption) | with_reducible refine Mod.call ?_ (by with_reducible assumption) (by first | (rintro _ rfl; first | exact .inl rfl | (right; (first | omega | (simp; done) | (simp; omega)))) | (rintro _ (rfl | rfl) <;> (right; (first | omega | (simp; done) | (simp; omega)))))))) ((go_at_call 11; (with_reducible refine (plain_calls _ _ _ _ _ _).mono ?_); rintro e w5 ⟨rfl, hbw5⟩; have hzw5 := hbw5.size; (try simp at hzw5); (try (have ltw50 : w2.heap.size < w5.heap.size := (by omega); have lcw50 := fun o => hbw5.cell (b := w2.heap.size) o (by first | omega | (simp; done) | (simp; omega)) (id); have lfw50 := fun o => hbw5.frozen (b := w2.heap.size) o (by first | omega | (simp; done) | (simp; omega)) (id))); (try (have ltw51 : w3.heap.size < w5.heap.size := (by omega); have lcw51 := fun o => hbw5.cell (b := w3.heap.size) o (by first | omega | (simp; done) | (simp; omega)) (id); have lfw51 := fun o => hbw5.frozen (b := w3.heap.size) o (by first | omega | (simp; done) | (simp; omega)) (id))); skip))
      all_goals
        go_wp2
        go_ret
        exact ⟨rfl, (by repeat (first | with_reducible exact Mod.refl _ _ | with_reducible assumption | with_reducible refine Mod.alloc ?_ _ | with_reducible refine Mod.drew ?_ | with_reducible refine Mod.drewN ?_ _ | with_reducible refine Mod.setCell ?_ (by first | exact .inl rfl | (left; (try unfold from_); show _ ≤ _; first | omega | (simp; done) | (simp; omega)) | (right; first | omega | (simp; done) | (simp; omega))) _ | with_reducible refine Mod.call0 ?_ (by with_reducible assumption) | with_reducible refine Mod.call ?_ (by with_reducible assumption) (by first | (rintro _ rfl; first | exact .inl rfl | (right; (first | omega | (simp; done) | (simp; omega)))) | (rintro _ (rfl | rfl) <;> (right; (first | omega | (simp; done) | (simp; omega)))))))⟩
end Go.Proofs.Ytiklhnngkebkeaa
