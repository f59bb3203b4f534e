/- Whether a config may be; the errors of a new floor. -/
import Derived.Test.YtcfpgecchappoaaFloorI
namespace Go.Proofs.Ytcfpgecchappoaa
open Go.RowKit

theorem fwithin_no (n a b : Int) (w : World) (h : ¬ (a ≤ n ∧ n ≤ b)) :
    Calls Try.prog 53 #[.int .i64 n, .int .i64 a, .int .i64 b] w fun e w' => e = .returned (.bool false) ∧ Mod nowhere w w' := by
  have := fwithin_calls n a b w
  rwa [decide_eq_false h] at this

set_option maxRecDepth 100000 in
set_option maxHeartbeats 4000000 in
theorem check_no (c0 c1 c2 c3 c4 c5 : Int) (w : World) (h : ¬ CfgOk c0 c1 c2 c3 c4 c5) :
    Calls Try.prog 24 #[.agg #[.int .i64 c0, .int .i64 c1, .int .i64 c2, .int .i64 c3, .int .i64 c4, .int .i64 c5]] w fun e w' => e = .returned (.bool false) ∧ Mod nowhere w w' := by
  by_cases h0 : 1 ≤ c0 ∧ c0 ≤ 8
  rotate_left
  · have H0 := hide h0
    clear h0 h
    go_enter Try.func24, Try.ntmps24
    go_wp2_with fail
    (with_reducible refine (fwithin_no c0 1 8 _ H0.out).mono ?_)
    rintro e w1 ⟨rfl, hbw1⟩
    have hzw1 := hbw1.size
    (try simp at hzw1)
    (try (have ltw10 : w.heap.size < w1.heap.size := (by omega); have lcw10 := fun o => hbw1.cell (b := w.heap.size) o (by first | omega | (simp; done) | (simp; omega)) (id); have lfw10 := fun o => hbw1.frozen (b := w.heap.size) o (by first | omega | (simp; done) | (simp; omega)) (id)))
    skip
    go_wp2
    go_ret
    exact ⟨rfl, (by repeat (first | with_reducible exact Mod.refl _ _ | with_reducible assumption | with_reducible refine Mod.alloc ?_ _ | with_reducible refine Mod.drew ?_ | with_reducible refine Mod.drewN ?_ _ | with_reducible refine Mod.setCell ?_ (by first | exact .inl rfl | (left; (try unfold from_); show _ ≤ _; first | omega | (simp; done) | (simp; omega)) | (right; first | omega | (simp; done) | (simp; omega))) _ | with_reducible refine Mod.call0 ?_ (by with_reducible assumption) | with_reducible refine Mod.call ?_ (by with_reducible assumption) (by first | (rintro _ rfl; first | exact .inl rfl | (right; (first | omega | (simp; done) | (simp; omega)))) | (rintro _ (rfl | rfl) <;> (right; (first | omega | (simp; done) | (simp; omega)))))))⟩
  have H0 := hide h0
  by_cases h1 : 1 ≤ c1 ∧ c1 ≤ 6
  rotate_left
  · have H1 := hide h1
    clear h1 h
    go_enter Try.func24, Try.ntmps24
    go_wp2_with fail
    (with_reducible refine (fwithin_yes c0 1 8 _ H0.out).mono ?_)
    rintro e w1 ⟨rfl, hbw1⟩
    have hzw1 := hbw1.size
    (try simp at hzw1)
    (try (have ltw10 : w.heap.size < w1.heap.size := (by omega); have lcw10 := fun o => hbw1.cell (b := w.heap.size) o (by first | omega | (simp; done) | (simp; omega)) (id); have lfw10 := fun o => hbw1.frozen (b := w.heap.size) o (by first | omega | (simp; done) | (simp; omega)) (id)))
    skip
    go_wp2_with fail
    (with_reducible refine (fwithin_no c1 1 6 _ H1.out).mono ?_)
    rintro e w2 ⟨rfl, hbw2⟩
    have hzw2 := hbw2.size
    (try simp at hzw2)
    (try (have ltw20 : w.heap.size < w2.heap.size := (by omega); have lcw20 := fun o => hbw2.cell (b := w.heap.size) o (by first | omega | (simp; done) | (simp; omega)) (id); have lfw20 := fun o => hbw2.frozen (b := w.heap.size) o (by first | omega | (simp; done) | (simp; omega)) (id)))
    skip
    go_wp2
    go_ret
    exact ⟨rfl, (by repeat (first | with_reducible exact Mod.refl _ _ | with_reducible assumption | with_reducible refine Mod.alloc ?_ _ | with_reducible refine Mod.drew ?_ | with_reducible refine Mod.drewN ?_ _ | with_reducible refine Mod.setCell ?_ (by first | exact .inl rfl | (left; (try unfold from_); show _ ≤ _; first | omega | (simp; done) | (simp; omega)) | (right; first | omega | (simp; done) | (simp; omega))) _ | with_reducible refine Mod.call0 ?_ (by with_reducible assumption) | with_reducible refine Mod.call ?_ (by with_reducible assumption) (by first | (rintro _ rfl; first | exact .inl rfl | (right; (first | omega | (simp; done) | (simp; omega)))) | (rintro _ (rfl | rfl) <;> (right; (first | omega | (simp; done) | (simp; omega)))))))⟩
  have H1 := hide h1
  by_cases h2 : 1 ≤ c2 ∧ c2 ≤ 4096
  rotate_left
  · have H2 := hide h2
    clear h2 h
    go_enter Try.func24, Try.ntmps24
    go_wp2_with fail
    (with_reducible refine (fwithin_yes c0 1 8 _ H0.out).mono ?_)
    rintro e w1 ⟨rfl, hbw1⟩
    have hzw1 := hbw1.size
    (try simp at hzw1)
    (try (have ltw10 : w.heap.size < w1.heap.size := (by omega); have lcw10 := fun o => hbw1.cell (b := w.heap.size) o (by first | omega | (simp; done) | (simp; omega)) (id); have lfw10 := fun o => hbw1.frozen (b := w.heap.size) o (by first | omega | (simp; done) | (simp; omega)) (id)))
    skip
    go_wp2_with fail
    (with_reducible refine (fwithin_yes c1 1 6 _ H1.out).mono ?_)
    rintro e w2 ⟨rfl, hbw2⟩
    have hzw2 := hbw2.size
    (try simp at hzw2)
    (try (have ltw20 : w.heap.size < w2.heap.size := (by omega); have lcw20 := fun o => hbw2.cell (b := w.heap.size) o (by first | omega | (simp; done) | (simp; omega)) (id); have lfw20 := fun o => hbw2.frozen (b := w.heap.size) o (by first | omega | (simp; done) | (simp; omega)) (id)))
    skip
    go_wp2_with fail
    (with_reducible refine (fwithin_no c2 1 4096 _ H2.out).mono ?_)
    rintro e w3 ⟨rfl, hbw3⟩
    have hzw3 := hbw3.size
    (try simp at hzw3)
    (try (have ltw30 : w.heap.size < w3.heap.size := (by omega); have lcw30 := fun o => hbw3.cell (b := w.heap.size) o (by first | omega | (simp; done) | (simp; omega)) (id); have lfw30 := fun o => hbw3.frozen (b := w.heap.size) o (by first | omega | (simp; done) | (simp; omega)) (id)))
    skip
    go_wp2
    go_ret
    exact ⟨rfl, (by repeat (first | with_reducible exact Mod.refl _ _ | with_reducible assumption | with_reducible refine Mod.alloc ?_ _ | with_reducible refine Mod.drew ?_ | with_reducible refine Mod.drewN ?_ _ | with_reducible refine Mod.setCell ?_ (by first | exact .inl rfl | (left; (try unfold from_); show _ ≤ _; first | omega | (simp; done) | (simp; omega)) | (right; first | omega | (simp; done) | (simp; omega))) _ | with_reducible refine Mod.call0 ?_ (by with_reducible assumption) | with_reducible refine Mod.call ?_ (by with_reducible assumption) (by first | (rintro _ rfl; first | exact .inl rfl | (right; (first | omega | (simp; done) | (simp; omega)))) | (rintro _ (rfl | rfl) <;> (right; (first | omega | (simp; done) | (simp; omega)))))))⟩
  have H2 := hide h2
  by_cases h3 : 0 ≤ c3 ∧ c3 ≤ 255
  rotate_left
  · have H3 := hide h3
    clear h3 h
    go_enter Try.func24, Try.ntmps24
    go_wp2_with fail
    (with_reducible refine (fwithin_yes c0 1 8 _ H0.out).mono ?_)
    rintro e w1 ⟨rfl, hbw1⟩
    have hzw1 := hbw1.size
    (try simp at hzw1)
    (try (have ltw10 : w.heap.size < w1.heap.size := (by omega); have lcw10 := fun o => hbw1.cell (b := w.heap.size) o (by first | omega | (simp; done) | (simp; omega)) (id); have lfw10 := fun o => hbw1.frozen (b := w.heap.size) o (by first | omega | (simp; done) | (simp; omega)) (id)))
    skip
    go_wp2_with fail
    (with_reducible refine (fwithin_yes c1 1 6 _ H1.out).mono ?_)
    rintro e w2 ⟨rfl, hbw2⟩
    have hzw2 := hbw2.size
    (try simp at hzw2)
    (try (have ltw20 : w.heap.size < w2.heap.size := (by omega); have lcw20 := fun o => hbw2.cell (b := w.heap.size) o (by first | omega | (simp; done) | (simp; omega)) (id); have lfw20 := fun o => hbw2.frozen (b := w.heap.size) o (by first | omega | (simp; done) | (simp; omega)) (id)))
    skip
    go_wp2_with fail
    (with_reducible refine (fwithin_yes c2 1 4096 _ H2.out).mono ?_)
    rintro e w3 ⟨rfl, hbw3⟩
    have hzw3 := hbw3.size
    (try simp at hzw3)
    (try (have ltw30 : w.heap.size < w3.heap.size := (by omega); have lcw30 := fun o => hbw3.cell (b := w.heap.size) o (by first | omega | (simp; done) | (simp; omega)) (id); have lfw30 := fun o => hbw3.frozen (b := w.heap.size) o (by first | omega | (simp; done) | (simp; omega)) (id)))
    skip
    go_wp2_with fail
    (with_reducible refine (fwithin_no c3 0 255 _ H3.out).mono ?_)
    rintro e w4 ⟨rfl, hbw4⟩
    have hzw4 := hbw4.size
    (try simp at hzw4)
    (try (have ltw40 : w.heap.size < w4.heap.size := (by omega); have lcw40 := fun o => hbw4.cell (b := w.heap.size) o (by first | omega | (simp; done) | (simp; omega)) (id); have lfw40 := fun o => hbw4.frozen (b := w.heap.size) o (by first | omega | (simp; done) | (simp; omega)) (id)))
    skip
    go_wp2
    go_ret
    exact ⟨rfl, (by repeat (first | with_reducible exact Mod.refl _ _ | with_reducible assumption | with_reducible refine Mod.alloc ?_ _ | with_reducible refine Mod.drew ?_ | with_reducible refine Mod.drewN ?_ _ | with_reducible refine Mod.setCell ?_ (by first | exact .inl rfl | (left; (try unfold from_); show _ ≤ _; first | omega | (simp; done) | (simp; omega)) | (right; first | omega | (simp; done) | (simp; omega))) _ | with_reducible refine Mod.call0 ?_ (by with_reducible assumption) | with_reducible refine Mod.call ?_ (by with_reducible assumption) (by first | (rintro _ rfl; first | exact .inl rfl | (right; (first | omega | (simp; done) | (simp; omega)))) | (rintro _ (rfl | rfl) <;> (right; (first | omega | (simp; done) | (simp; omega)))))))⟩
  have H3 := hide h3
  by_cases h4 : 1 ≤ c4 ∧ c4 ≤ 4
  rotate_left
  · have H4 := hide h4
    clear h4 h
    go_enter Try.func24, Try.ntmps24
    go_wp2_with fail
    (with_reducible refine (fwithin_yes c0 1 8 _ H0.out).mono ?_)
    rintro e w1 ⟨rfl, hbw1⟩
    have hzw1 := hbw1.size
    (try simp at hzw1)
    (try (have ltw10 : w.heap.size < w1.heap.size := (by omega); have lcw10 := fun o => hbw1.cell (b := w.heap.size) o (by first | omega | (simp; done) | (simp; omega)) (id); have lfw10 := fun o => hbw1.frozen (b := w.heap.size) o (by first | omega | (simp; done) | (simp; omega)) (id)))
    skip
    go_wp2_with fail
    (with_reducible refine (fwithin_yes c1 1 6 _ H1.out).mono ?_)
    rintro e w2 ⟨rfl, hbw2⟩
    have hzw2 := hbw2.size
    (try simp at hzw2)
    (try (have ltw20 : w.heap.size < w2.heap.size := (by omega); have lcw20 := fun o => hbw2.cell (b := w.heap.size) o (by first | omega | (simp; done) | (simp; omega)) (id); have lfw20 := fun o => hbw2.frozen (b := w.heap.size) o (by first | omega | (simp; done) | (simp; omega)) (id)))
    skip
    go_wp2_with fail
    (with_reducible refine (fwithin_yes c2 1 4096 _ H2.out).mono ?_)
    rintro e w3 ⟨rfl, hbw3⟩
    have hzw3 := hbw3.size
    (try simp at hzw3)
    (try (have ltw30 : w.heap.size < w3.heap.size := (by omega); have lcw30 := fun o => hbw3.cell (b := w.heap.size) o (by first | omega | (simp; done) | (simp; omega)) (id); have lfw30 := fun o => hbw3.frozen (b := w.heap.size) o (by first | omega | (simp; done) | (simp; omega)) (id)))
    skip
    go_wp2_with fail
    (with_reducible refine (fwithin_yes c3 0 255 _ H3.out).mono ?_)
    rintro e w4 ⟨rfl, hbw4⟩
    have hzw4 := hbw4.size
    (try simp at hzw4)
    (try (have ltw40 : w.heap.size < w4.heap.size := (by omega); have lcw40 := fun o => hbw4.cell (b := w.heap.size) o (by first | omega | (simp; done) | (simp; omega)) (id); have lfw40 := fun o => hbw4.frozen (b := w.heap.size) o (by first | omega | (simp; done) | (simp; omega)) (id)))
    skip
    go_wp2_with fail
    (with_reducible refine (fwithin_no c4 1 4 _ H4.out).mono ?_)
    rintro e w5 ⟨rfl, hbw5⟩
    have hzw5 := hbw5.size
    (try simp at hzw5)
    (try (have ltw50 : w.heap.size < w5.heap.size := (by omega); have lcw50 := fun o => hbw5.cell (b := w.heap.size) o (by first | omega | (simp; done) | (simp; omega)) (id); have lfw50 := fun o => hbw5.frozen (b := w.heap.size) o (by first | omega | (simp; done) | (simp; omega)) (id)))
    skip
    go_wp2
    go_ret
    exact ⟨rfl, (by repeat (first | with_reducible exact Mod.refl _ _ | with_reducible assumption | with_reducible refine Mod.alloc ?_ _ | with_reducible refine Mod.drew ?_ | with_reducible refine Mod.drewN ?_ _ | with_reducible refine Mod.setCell ?_ (by first | exact .inl rfl | (left; (try unfold from_); show _ ≤ _; first | omega | (simp; done) | (simp; omega)) | (right; first | omega | (simp; done) | (simp; omega))) _ | with_reducible refine Mod.call0 ?_ (by with_reducible assumption) | with_reducible refine Mod.call ?_ (by with_reducible assumption) (by first | (rintro _ rfl; first | exact .inl rfl | (right; (first | omega | (simp; done) | (simp; omega)))) | (rintro _ (rfl | rfl) <;> (right; (first | omega | (simp; done) | (simp; omega)))))))⟩
  have H4 := hide h4
  by_cases h5 : 1 ≤ c5 ∧ c5 ≤ 64
  rotate_left
  · have H5 := hide h5
    clear h5 h
    go_enter Try.func24, Try.ntmps24
    go_wp2_with fail
    (with_reducible refine (fwithin_yes c0 1 8 _ H0.out).mono ?_)
    rintro e w1 ⟨rfl, hbw1⟩
    have hzw1 := hbw1.size
    (try simp at hzw1)
    (try (have ltw10 : w.heap.size < w1.heap.size := (by omega); have lcw10 := fun o => hbw1.cell (b := w.heap.size) o (by first | omega | (simp; done) | (simp; omega)) (id); have lfw10 := fun o => hbw1.frozen (b := w.heap.size) o (by first | omega | (simp; done) | (simp; omega)) (id)))
    skip
    go_wp2_with fail
    (with_reducible refine (fwithin_yes c1 1 6 _ H1.out).mono ?_)
    rintro e w2 ⟨rfl, hbw2⟩
    have hzw2 := hbw2.size
    (try simp at hzw2)
    (try (have ltw20 : w.heap.size < w2.heap.size := (by omega); have lcw20 := fun o => hbw2.cell (b := w.heap.size) o (by first | omega | (simp; done) | (simp; omega)) (id); have lfw20 := fun o => hbw2.frozen (b := w.heap.size) o (by first | omega | (simp; done) | (simp; omega)) (id)))
    skip
    go_wp2_with fail
    (with_reducible refine (fwithin_yes c2 1 4096 _ H2.out).mono ?_)
    rintro e w3 ⟨rfl, hbw3⟩
    have hzw3 := hbw3.size
    (try simp at hzw3)
    (try (have ltw30 : w.heap.size < w3.heap.size := (by omega); have lcw30 := fun o => hbw3.cell (b := w.heap.size) o (by first | omega | (simp; done) | (simp; omega)) (id); have lfw30 := fun o => hbw3.frozen (b := w.heap.size) o (by first | omega | (simp; done) | (simp; omega)) (id)))
    skip
    go_wp2_with fail
    (with_reducible refine (fwithin_yes c3 0 255 _ H3.out).mono ?_)
    rintro e w4 ⟨rfl, hbw4⟩
    have hzw4 := hbw4.size
    (try simp at hzw4)
    (try (have ltw40 : w.heap.size < w4.heap.size := (by omega); have lcw40 := fun o => hbw4.cell (b := w.heap.size) o (by first | omega | (simp; done) | (simp; omega)) (id); have lfw40 := fun o => hbw4.frozen (b := w.heap.size) o (by first | omega | (simp; done) | (simp; omega)) (id)))
    skip
    go_wp2_with fail
    (with_reducible refine (fwithin_yes c4 1 4 _ H4.out).mono ?_)
    rintro e w5 ⟨rfl, hbw5⟩
    have hzw5 := hbw5.size
    (try simp at hzw5)
    (try (have ltw50 : w.heap.size < w5.heap.size := (by omega); have lcw50 := fun o => hbw5.cell (b := w.heap.size) o (by first | omega | (simp; done) | (simp; omega)) (id); have lfw50 := fun o => hbw5.frozen (b := w.heap.size) o (by first | omega | (simp; done) | (simp; omega)) (id)))
    skip
    go_wp2_with fail
    (with_reducible refine (fwithin_no c5 1 64 _ H5.out).mono ?_)
    rintro e w6 ⟨rfl, hbw6⟩
    have hzw6 := hbw6.size
    (try simp at hzw6)
    (try (have ltw60 : w.heap.size < w6.heap.size := (by omega); have lcw60 := fun o => hbw6.cell (b := w.heap.size) o (by first | omega | (simp; done) | (simp; omega)) (id); have lfw60 := fun o => hbw6.frozen (b := w.heap.size) o (by first | omega | (simp; done) | (simp; omega)) (id)))
    skip
    go_wp2
    go_ret
    exact ⟨rfl, (by repeat (first | with_reducible exact Mod.refl _ _ | with_reducible assumption | with_reducible refine Mod.alloc ?_ _ | with_reducible refine Mod.drew ?_ | with_reducible refine Mod.drewN ?_ _ | with_reducible refine Mod.setCell ?_ (by first | exact .inl rfl | (left; (try unfold from_); show _ ≤ _; first | omega | (simp; done) | (simp; omega)) | (right; first | omega | (simp; done) | (simp; omega))) _ | with_reducible refine Mod.call0 ?_ (by with_reducible assumption) | with_reducible refine Mod.call ?_ (by with_reducible assumption) (by first | (rintro _ rfl; first | exact .inl rfl | (right; (first | omega | (simp; done) | (simp; omega)))) | (rintro _ (rfl | rfl) <;> (right; (first | omega | (simp; done) | (simp; omega)))))))⟩
  have H5 := hide h5
  exact absurd ⟨H0.out, H1.out, H2.out, H3.out, H4.out, H5.out⟩ h

/-! ### The reference's Check -/
def cfV (c0 c1 c2 c3 c4 c5 : Int) (j : Nat) : Int := if j = 0 then c0 else if j = 1 then c1 else if j = 2 then c2 else if j = 3 then c3 else if j = 4 then c4 else c5
def cfL (j : Nat) : Int := if j = 3 then 0 else 1
def cfH (j : Nat) : Int := if j = 0 then 8 else if j = 1 then 6 else if j = 2 then 4096 else if j = 3 then 255 else if j = 4 then 4 else 64
theorem cfg_iff (c0 c1 c2 c3 c4 c5 : Int) : CfgOk c0 c1 c2 c3 c4 c5 ↔ ∀ j, j < 6 → cfL j ≤ cfV c0 c1 c2 c3 c4 c5 j ∧ cfV c0 c1 c2 c3 c4 c5 j ≤ cfH j := by
  constructor
  · rintro ⟨h0, h1, h2, h3, h4, h5⟩ j hj
    have : j = 0 ∨ j = 1 ∨ j = 2 ∨ j = 3 ∨ j = 4 ∨ j = 5 := by omega
    rcases this with rfl | rfl | rfl | rfl | rfl | rfl
    · exact h0
    · exact h1
    · exact h2
    · exact h3
    · exact h4
    · exact h5
  · intro h
    exact ⟨h 0 (by omega), h 1 (by omega), h 2 (by omega), h 3 (by omega), h 4 (by omega), h 5 (by omega)⟩
/-- A row of the triples that are looked at. -/
def Trip (w : World) (q : Nat) (c0 c1 c2 c3 c4 c5 : Int) : Prop := ∀ j, j < 6 → w.cell? ⟨q, 3 * j, none⟩ = some (.int .i64 (cfV c0 c1 c2 c3 c4 c5 j)) ∧ w.cell? ⟨q, 3 * j + 1, none⟩ = some (.int .i64 (cfL j)) ∧ w.cell? ⟨q, 3 * j + 2, none⟩ = some (.int .i64 (cfH j))
theorem Trip.of {w : World} {q : Nat} {c0 c1 c2 c3 c4 c5 : Int} {t : TypeId} (h : Blk w q t #[.int .i64 c0, .int .i64 1, .int .i64 8, .int .i64 c1, .int .i64 1, .int .i64 6, .int .i64 c2, .int .i64 1, .int .i64 4096, .int .i64 c3, .int .i64 0, .int .i64 255, .int .i64 c4, .int .i64 1, .int .i64 4, .int .i64 c5, .int .i64 1, .int .i64 64]) : Trip w q c0 c1 c2 c3 c4 c5 := by
  intro j hj
  have : j = 0 ∨ j = 1 ∨ j = 2 ∨ j = 3 ∨ j = 4 ∨ j = 5 := by omega
  rcases this with rfl | rfl | rfl | rfl | rfl | rfl
  · exact ⟨h.cell 0, h.cell 1, h.cell 2⟩
  · exact ⟨h.cell 3, h.cell 4, h.cell 5⟩
  · exact ⟨h.cell 6, h.cell 7, h.cell 8⟩
  · exact ⟨h.cell 9, h.cell 10, h.cell 11⟩
  · exact ⟨h.cell 12, h.cell 13, h.cell 14⟩
  · exact ⟨h.cell 15, h.cell 16, h.cell 17⟩
theorem Trip.keep0 {w w' : World} {q : Nat} {c0 c1 c2 c3 c4 c5 : Int} (h : Trip w q c0 c1 c2 c3 c4 c5) (hq : q < w.heap.size) (hm : Mod nowhere w w') : Trip w' q c0 c1 c2 c3 c4 c5 := fun j hj =>
  ⟨(hm.cell _ hq id).trans (h j hj).1, (hm.cell _ hq id).trans (h j hj).2.1, (hm.cell _ hq id).trans (h j hj).2.2⟩
set_option maxRecDepth 100000 in
set_option maxHeartbeats 4000000 in
theorem rcheck_calls (c0 c1 c2 c3 c4 c5 : Int) (w : World) :
    Calls Try.prog 25 #[.agg #[.int .i64 c0, .int .i64 c1, .int .i64 c2, .int .i64 c3, .int .i64 c4, .int .i64 c5]] w fun e w' => ∃ b, e = .returned (.bool b) ∧ (b = true ↔ CfgOk c0 c1 c2 c3 c4 c5) ∧ Mod nowhere w w' := by
  go_enter Try.func25, Try.ntmps25
  go_wp2_with fail
  obtain ⟨W, hW⟩ : ∃ W, W = (w.alloc (.cells #[.int .i64 c0, .int .i64 c1, .int .i64 c2, .int .i64 c3, .int .i64 c4, .int .i64 c5] 29)).alloc (.cells #[.int .i64 c0, .int .i64 1, .int .i64 8, .int .i64 c1, .int .i64 1, .int .i64 6, .int .i64 c2, .int .i64 1, .int .i64 4096, .int .i64 c3, .int .i64 0, .int .i64 255, .int .i64 c4, .int .i64 1, .int .i64 4, .int .i64 c5, .int .i64 1, .int .i64 64] 3) := ⟨_, rfl⟩
  have yW : Mod nowhere w W := by rw [hW]; exact ((Mod.refl _ _).alloc _).alloc _
  have hT : Trip W (w.heap.size + 1) c0 c1 c2 c3 c4 c5 := by
    have := Trip.of (Blk.new (w.alloc (.cells #[.int .i64 c0, .int .i64 c1, .int .i64 c2, .int .i64 c3, .int .i64 c4, .int .i64 c5] 29)) 3 #[.int .i64 c0, .int .i64 1, .int .i64 8, .int .i64 c1, .int .i64 1, .int .i64 6, .int .i64 c2, .int .i64 1, .int .i64 4096, .int .i64 c3, .int .i64 0, .int .i64 255, .int .i64 c4, .int .i64 1, .int .i64 4, .int .i64 c5, .int .i64 1, .int .i64 64])
    rw [hW]
    simpa using this
  have hq : w.heap.size + 1 < W.heap.size := by rw [hW]; simp
  rw [← hW]
  clear hW
  generalize w.heap.size + 1 = q at *
  go_loopw [4] (fun s4 wx => ∃ k : Nat, s4 = .int .i64 (3 * k : Nat) ∧ k ≤ 6 ∧ (∀ j, j < k → cfL j ≤ cfV c0 c1 c2 c3 c4 c5 j ∧ cfV c0 c1 c2 c3 c4 c5 j ≤ cfH j) ∧ q < wx.heap.size ∧ Trip wx q c0 c1 c2 c3 c4 c5 ∧ Mod nowhere w wx)
    (fun s4 _ => (300 - (intOf s4)).toNat)
  case atStart => exact ⟨0, rfl, Nat.zero_le _, fun j hj => absurd hj (by omega), hq, hT, yW⟩
  case round =>
    obtain ⟨k, rfl, hk, hall, hq, hT, hm⟩ := hrel
    by_cases hlt : k < 6
    · obtain ⟨e0, e1, e2⟩ := hT k hlt
      have HA := hide hall
      have HT := hide hT
      have HC : Hid ((cfL k ≤ cfV c0 c1 c2 c3 c4 c5 k ∧ cfV c0 c1 c2 c3 c4 c5 k ≤ cfH k) ∨ ¬ CfgOk c0 c1 c2 c3 c4 c5) := hide (by
        by_cases hh : cfL k ≤ cfV c0 c1 c2 c3 c4 c5 k ∧ cfV c0 c1 c2 c3 c4 c5 k ≤ cfH k
        · exact .inl hh
        · exact .inr fun x => hh ((cfg_iff _ _ _ _ _ _).1 x k hlt))
      have HX := hide (show ¬ (cfL k ≤ cfV c0 c1 c2 c3 c4 c5 k ∧ cfV c0 c1 c2 c3 c4 c5 k ≤ cfH k) → ¬ CfgOk c0 c1 c2 c3 c4 c5 from fun hh x => hh ((cfg_iff _ _ _ _ _ _).1 x k hlt))
      have HS := hide (show (cfL k ≤ cfV c0 c1 c2 c3 c4 c5 k ∧ cfV c0 c1 c2 c3 c4 c5 k ≤ cfH k) → ∀ j, j < k + 1 → cfL j ≤ cfV c0 c1 c2 c3 c4 c5 j ∧ cfV c0 c1 c2 c3 c4 c5 j ≤ cfH j from fun hh j hj => by
        by_cases e : j = k
        · subst e; exact hh
        · exact hall j (by omega))
      clear hall hT HC
      generalize cfV c0 c1 c2 c3 c4 c5 k = x at *
      generalize cfL k = lo at *
      generalize cfH k = hi at *
      obtain ⟨i, hie⟩ : ∃ i, i = 3 * k := ⟨_, rfl⟩
      have HI := hide hie
      rw [← hie] at e0 e1 e2 ⊢
      have hi18 : i + 2 < 18 := by omega
      clear hie
      by_cases t1 : x < lo
      · go_wp2
        go_region
        all_goals go_wp2
        all_goals go_ret
        all_goals exact ⟨false, rfl, by simpa using HX.out (by omega), (by repeat (first | with_reducible exact Mod.refl _ _ | with_reducible assumption | with_reducible refine Mod.alloc ?_ _ | with_reducible refine Mod.drew ?_ | with_reducible refine Mod.drewN ?_ _ | with_reducible refine Mod.setCell ?_ (by first | exact .inl rfl | (left; (try unfold from_); show _ ≤ _; first | omega | (simp; done) | (simp; omega)) | (right; first | omega | (simp; done) | (simp; omega))) _ | with_reducible refine Mod.call0 ?_ (by with_reducible assumption) | with_reducible refine Mod.call ?_ (by with_reducible assumption) (by first | (rintro _ rfl; first | exact .inl rfl | (right; (first | omega | (simp; done) | (simp; omega)))) | (rintro _ (rfl | rfl) <;> (right; (first | omega | (simp; done) | (simp; omega)))))))⟩
      · have e1 : decide (x < lo) = false := by simp; omega
        have t1' : lo ≤ x := by omega
        by_cases t2 : hi < x
        · go_wp2
          go_region
          all_goals go_wp2
          all_goals go_ret
          all_goals exact ⟨false, rfl, by simpa using HX.out (by omega), (by repeat (first | with_reducible exact Mod.refl _ _ | with_reducible assumption | with_reducible refine Mod.alloc ?_ _ | with_reducible refine Mod.drew ?_ | with_reducible refine Mod.drewN ?_ _ | with_reducible refine Mod.setCell ?_ (by first | exact .inl rfl | (left; (try unfold from_); show _ ≤ _; first | omega | (simp; done) | (simp; omega)) | (right; first | omega | (simp; done) | (simp; omega))) _ | with_reducible refine Mod.call0 ?_ (by with_reducible assumption) | with_reducible refine Mod.call ?_ (by with_reducible assumption) (by first | (rintro _ rfl; first | exact .inl rfl | (right; (first | omega | (simp; done) | (simp; omega)))) | (rintro _ (rfl | rfl) <;> (right; (first | omega | (simp; done) | (simp; omega)))))))⟩
        · have e2' : decide (hi < x) = false := by simp; omega
          have t2' : x ≤ hi := by omega
          go_wp2
          go_region
          all_goals go_wp2
          all_goals go_roundw
          case rel => exact ⟨k + 1, by have hI := HI.out; go_num, by omega, HS.out (by omega), by simpa using hq, HT.out.keep0 hq (by repeat (first | with_reducible exact Mod.refl _ _ | with_reducible assumption | with_reducible refine Mod.alloc ?_ _ | with_reducible refine Mod.drew ?_ | with_reducible refine Mod.drewN ?_ _ | with_reducible refine Mod.setCell ?_ (by first | exact .inl rfl | (left; (try unfold from_); show _ ≤ _; first | omega | (simp; done) | (simp; omega)) | (right; first | omega | (simp; done) | (simp; omega))) _ | with_reducible refine Mod.call0 ?_ (by with_reducible assumption) | with_reducible refine Mod.call ?_ (by with_reducible assumption) (by first | (rintro _ rfl; first | exact .inl rfl | (right; (first | omega | (simp; done) | (simp; omega)))) | (rintro _ (rfl | rfl) <;> (right; (first | omega | (simp; done) | (simp; omega))))))), (by repeat (first | with_reducible exact Mod.refl _ _ | with_reducible assumption | with_reducible refine Mod.alloc ?_ _ | with_reducible refine Mod.drew ?_ | with_reducible refine Mod.drewN ?_ _ | with_reducible refine Mod.setCell ?_ (by first | exact .inl rfl | (left; (try unfold from_); show _ ≤ _; first | omega | (simp; done) | (simp; omega)) | (right; first | omega | (simp; done) | (simp; omega))) _ | with_reducible refine Mod.call0 ?_ (by with_reducible assumption) | with_reducible refine Mod.call ?_ (by with_reducible assumption) (by first | (rintro _ rfl; first | exact .inl rfl | (right; (first | omega | (simp; done) | (simp; omega)))) | (rintro _ (rfl | rfl) <;> (right; (first | omega | (simp; done) | (simp; omega)))))))⟩
          case measure => simp [intOf] <;> omega
    · obtain rfl : k = 6 := by omega
      go_wp2
      go_ret
      exact ⟨true, rfl, by simpa using (cfg_iff _ _ _ _ _ _).2 hall, (by repeat (first | with_reducible exact Mod.refl _ _ | with_reducible assumption | with_reducible refine Mod.alloc ?_ _ | with_reducible refine Mod.drew ?_ | with_reducible refine Mod.drewN ?_ _ | with_reducible refine Mod.setCell ?_ (by first | exact .inl rfl | (left; (try unfold from_); show _ ≤ _; first | omega | (simp; done) | (simp; omega)) | (right; first | omega | (simp; done) | (simp; omega))) _ | with_reducible refine Mod.call0 ?_ (by with_reducible assumption) | with_reducible refine Mod.call ?_ (by with_reducible assumption) (by first | (rintro _ rfl; first | exact .inl rfl | (right; (first | omega | (simp; done) | (simp; omega)))) | (rintro _ (rfl | rfl) <;> (right; (first | omega | (simp; done) | (simp; omega)))))))⟩
end Go.Proofs.Ytcfpgecchappoaa
