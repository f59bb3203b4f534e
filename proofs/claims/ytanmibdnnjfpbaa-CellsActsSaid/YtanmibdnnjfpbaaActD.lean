/- What the calls do where they refuse; what is told of any number. -/
import Derived.Test.YtanmibdnnjfpbaaActC
namespace Go.Proofs.Ytanmibdnnjfpbaa
open Go.RowKit

/-- What the records are: versions, locators of versions, descriptors. -/
def Good (cs : List Value) (N : Nat) : Prop := ∀ i, i < N → (∃ x, Rec9 cs i 1 x 0 0 0 0 0 0 0) ∨ (∃ (own : Int) (a b : Nat) (x y : Int), I64 own ∧ a < N ∧ b < N ∧ Rec9 cs i 2 0 own a b 0 0 0 0 ∧ Rec9 cs a 1 x 0 0 0 0 0 0 0 ∧ Rec9 cs b 1 y 0 0 0 0 0 0 0) ∨ Rec9 cs i 3 0 0 0 0 1 1 1 1
/-- Record i is there, and of kind k. -/
def IsK (cs : List Value) (N : Nat) (i k : Int) : Prop := 0 ≤ i ∧ i < (N : Int) ∧ kindOf cs i.toNat = k
instance (cs : List Value) (N : Nat) (i k : Int) : Decidable (IsK cs N i k) := by unfold IsK; infer_instance
theorem Rec9.kind {cs : List Value} {i : Nat} {x0 x1 x2 x3 x4 x5 x6 x7 x8 : Int} (h : Rec9 cs i x0 x1 x2 x3 x4 x5 x6 x7 x8) : kindOf cs i = x0 := by
  unfold kindOf
  rw [List.getD_eq_getElem?_getD, h.h0]
  rfl
theorem Good.kinds {cs : List Value} {N : Nat} (h : Good cs N) : Kinds cs N := fun i hi => by
  rcases h i hi with ⟨x, h⟩ | ⟨own, a, b, x, y, -, -, -, h, -⟩ | h
  · rw [h.kind]; exact h.h0
  · rw [h.kind]; exact h.h0
  · rw [h.kind]; exact h.h0
theorem Good.ver {cs : List Value} {N i : Nat} (h : Good cs N) (hi : i < N) (hk : kindOf cs i = 1) : ∃ x, Rec9 cs i 1 x 0 0 0 0 0 0 0 := by
  rcases h i hi with h | ⟨own, a, b, x, y, -, -, -, h, -⟩ | h
  · exact h
  · rw [h.kind] at hk; cases hk
  · rw [h.kind] at hk; cases hk
theorem Good.loc {cs : List Value} {N i : Nat} (h : Good cs N) (hi : i < N) (hk : kindOf cs i = 2) : ∃ (own : Int) (a b : Nat) (x y : Int), I64 own ∧ a < N ∧ b < N ∧ Rec9 cs i 2 0 own a b 0 0 0 0 ∧ Rec9 cs a 1 x 0 0 0 0 0 0 0 ∧ Rec9 cs b 1 y 0 0 0 0 0 0 0 := by
  rcases h i hi with ⟨x, h⟩ | h | h
  · rw [h.kind] at hk; cases hk
  · exact h
  · rw [h.kind] at hk; cases hk
theorem Good.rec_ {cs : List Value} {N i : Nat} (h : Good cs N) (hi : i < N) : ∃ x0 x1 x2 x3 x4 x5 x6 x7 x8, Rec9 cs i x0 x1 x2 x3 x4 x5 x6 x7 x8 := by
  rcases h i hi with ⟨x, h⟩ | ⟨own, a, b, x, y, -, -, -, h, -⟩ | h
  · exact ⟨_, _, _, _, _, _, _, _, _, h⟩
  · exact ⟨_, _, _, _, _, _, _, _, _, h⟩
  · exact ⟨_, _, _, _, _, _, _, _, _, h⟩
/-- A locator resolves. -/
theorem Good.cur {cs : List Value} {N l : Nat} (h : Good cs N) (hl : l < N) (hk : kindOf cs l = 2) (st : Int → Int) : ∃ val, Cur cs N st l val := by
  obtain ⟨own, a, b, x, y, h1, h2, h3, h4, h5, h6⟩ := h.loc hl hk
  by_cases e : own = -1 ∨ st own = 2
  · exact ⟨y, Cur.mk own a b b hl h4 h1 (if_pos e) h3 h6⟩
  · exact ⟨x, Cur.mk own a b a hl h4 h1 (if_neg e) h2 h5⟩
theorem Good.snoc {cs new : List Value} {N : Nat} (h : Good cs N) (hn : (∃ x, Rec9 (cs ++ new) N 1 x 0 0 0 0 0 0 0) ∨ (∃ (own : Int) (a b : Nat) (x y : Int), I64 own ∧ a < N + 1 ∧ b < N + 1 ∧ Rec9 (cs ++ new) N 2 0 own a b 0 0 0 0 ∧ Rec9 (cs ++ new) a 1 x 0 0 0 0 0 0 0 ∧ Rec9 (cs ++ new) b 1 y 0 0 0 0 0 0 0) ∨ Rec9 (cs ++ new) N 3 0 0 0 0 1 1 1 1) : Good (cs ++ new) (N + 1) := fun i hi => by
  by_cases e : i = N
  · subst e
    exact hn
  · rcases h i (by omega) with ⟨x, h⟩ | ⟨own, a, b, x, y, h1, h2, h3, h4, h5, h6⟩ | h
    · exact .inl ⟨x, h.more⟩
    · exact .inr (.inl ⟨own, a, b, x, y, h1, by omega, by omega, h4.more, h5.more, h6.more⟩)
    · exact .inr (.inr h.more)
section
variable {w : World} {c a r N : Nat} {A : Value} {most : Int} {cs : List Value}
theorem val_bad (i : Int) (w : World) (hc : IsCl w c a A) (ha : Arn_rec w a r N most cs) (hG : Good cs N) (hN : N ≤ 4096) (hi : ¬ IsK cs N i 1) :
    Calls Try.prog 25 #[.pointer (some ⟨c, 0, none⟩), .int .i64 i] w fun e w' => e = .returned (.tuple #[.int .i64 0, .int .i64 6]) ∧ Mod nowhere w w' := by
  by_cases h : 0 ≤ i ∧ i < (N : Int)
  · obtain ⟨j, rfl⟩ : ∃ j : Nat, i = j := ⟨i.toNat, by omega⟩
    obtain ⟨x0, x1, x2, x3, x4, x5, x6, x7, x8, hr⟩ := hG.rec_ (i := j) (by omega)
    exact val_miss x0 x1 x2 x3 x4 x5 x6 x7 x8 c a r N A most cs w hc ha j j rfl (by omega) hN hr (fun e => hi ⟨by omega, by omega, by rw [show (j : Int).toNat = j from rfl, hr.kind, e]⟩)
  · exact val_out i c a r N A most cs w hc ha (by omega)
theorem loc_bad (i : Int) (w : World) (hc : IsCl w c a A) (ha : Arn_rec w a r N most cs) (hG : Good cs N) (hN : N ≤ 4096) (hi : ¬ IsK cs N i 2) :
    Calls Try.prog 31 #[.pointer (some ⟨c, 0, none⟩), .int .i64 i] w fun e w' => e = .returned (.tuple #[.agg #[.int .i64 0, .int .i64 0, .int .i64 0, .int .i64 0, .int .i64 0, .int .i64 0, .int .i64 0, .int .i64 0, .int .i64 0], .int .i64 6]) ∧ Mod nowhere w w' := by
  by_cases h : 0 ≤ i ∧ i < (N : Int)
  · obtain ⟨j, rfl⟩ : ∃ j : Nat, i = j := ⟨i.toNat, by omega⟩
    obtain ⟨x0, x1, x2, x3, x4, x5, x6, x7, x8, hr⟩ := hG.rec_ (i := j) (by omega)
    exact loc_miss x0 x1 x2 x3 x4 x5 x6 x7 x8 c a r N A most cs w hc ha j j rfl (by omega) hN hr (fun e => hi ⟨by omega, by omega, by rw [show (j : Int).toNat = j from rfl, hr.kind, e]⟩)
  · exact loc_out i c a r N A most cs w hc ha (by omega)
/-- Value, whatever is there. -/
theorem val_any (i : Int) (w : World) (hc : IsCl w c a A) (ha : Arn_rec w a r N most cs) (hG : Good cs N) (hN : N ≤ 4096) :
    Calls Try.prog 25 #[.pointer (some ⟨c, 0, none⟩), .int .i64 i] w fun e w' => ∃ x f : Int, e = .returned (.tuple #[.int .i64 x, .int .i64 f]) ∧ (IsK cs N i 1 ∧ f = 0 ∨ ¬ IsK cs N i 1 ∧ f = 6) ∧ Mod nowhere w w' := by
  by_cases h : IsK cs N i 1
  · obtain ⟨j, rfl⟩ : ∃ j : Nat, i = j := ⟨i.toNat, by have := h.1; omega⟩
    have hj : j < N := by have := h.2.1; omega
    obtain ⟨x, hr⟩ := hG.ver hj h.2.2
    exact (val_hit 1 x 0 0 0 0 0 0 0 c a r N A most cs w hc ha j j rfl hj hN hr rfl).mono (by rintro e w' ⟨rfl, hm⟩; exact ⟨x, 0, rfl, .inl ⟨h, rfl⟩, hm⟩)
  · exact (val_bad i w hc ha hG hN h).mono (by rintro e w' ⟨rfl, hm⟩; exact ⟨0, 6, rfl, .inr ⟨h, rfl⟩, hm⟩)
set_option maxRecDepth 100000 in
set_option maxHeartbeats 2000000 in
theorem bld_bad (own old new : Int) (w : World) (hc : IsCl w c a A) (ha : Arn_rec w a r N most cs) (hG : Good cs N) (hN : N ≤ 4096) (hb : own < -1 ∨ ¬ IsK cs N old 1 ∨ ¬ IsK cs N new 1) :
    Calls Try.prog 10 #[.pointer (some ⟨c, 0, none⟩), .int .i64 own, .int .i64 old, .int .i64 new] w fun e w' => e = .returned (.tuple #[.int .i64 0, .int .i64 1]) ∧ Mod nowhere w w' := by
  have HA := hide ha
  have HG := hide hG
  have HB := hide hb
  clear ha hG hb
  have c_hc := hc.cell; have f_hc := hc.frozen; have l_hc := hc.lt
  go_enter Try.func10, Try.ntmps10
  go_wp2_with fail
  (with_reducible refine (val_any old _ (by exact (by repeat (first | with_reducible assumption | with_reducible apply Blk.new | with_reducible exact Blk.newAt (by first | rfl | (simp; done) | (simp; omega)) | with_reducible apply Blk.alloc | with_reducible apply Blk.drew | with_reducible apply Blk.drewN | with_reducible apply Blk.keep0 (hm := by with_reducible assumption) | with_reducible apply Blk.keep (hm := by with_reducible assumption) (hg := by first | omega | exact not_two (by omega) (by omega)) | with_reducible apply Blk.far (hp := by first | omega | (simp; done) | (simp; omega)) | with_reducible apply Blk.set1 | rfl))) (HA.out.keep0 ((by repeat (first | with_reducible exact Mod.refl _ _ | with_reducible assumption | with_reducible refine Mod.alloc ?_ _ | with_reducible refine Mod.drew ?_ | with_reducible refine Mod.drewN ?_ _ | with_reducible refine Mod.setCell ?_ (by first | exact .inl rfl | (left; (try unfold from_); show _ ≤ _; first | omega | (simp; done) | (simp; omega)) | (right; first | omega | (simp; done) | (simp; omega))) _ | with_reducible refine Mod.call0 ?_ (by with_reducible assumption) | with_reducible refine Mod.call ?_ (by with_reducible assumption) (by first | (rintro _ rfl; first | exact .inl rfl | (right; (first | omega | (simp; done) | (simp; omega)))) | (rintro _ (rfl | rfl) <;> (right; (first | omega | (simp; done) | (simp; omega))))))) : Mod nowhere w _)) HG.out hN).mono ?_)
  rintro e w5 ⟨x5, f5, rfl, hf5, hm5⟩
  have y5 : Mod nowhere w w5 := (by repeat (first | with_reducible exact Mod.refl _ _ | with_reducible assumption | with_reducible refine Mod.alloc ?_ _ | with_reducible refine Mod.drew ?_ | with_reducible refine Mod.drewN ?_ _ | with_reducible refine Mod.setCell ?_ (by first | exact .inl rfl | (left; (try unfold from_); show _ ≤ _; first | omega | (simp; done) | (simp; omega)) | (right; first | omega | (simp; done) | (simp; omega))) _ | with_reducible refine Mod.call0 ?_ (by with_reducible assumption) | with_reducible refine Mod.call ?_ (by with_reducible assumption) (by first | (rintro _ rfl; first | exact .inl rfl | (right; (first | omega | (simp; done) | (simp; omega)))) | (rintro _ (rfl | rfl) <;> (right; (first | omega | (simp; done) | (simp; omega)))))))
  go_wp2_with fail
  (with_reducible refine (val_any new _ (Blk.keep0 hc ((by repeat (first | with_reducible exact Mod.refl _ _ | with_reducible assumption | with_reducible refine Mod.alloc ?_ _ | with_reducible refine Mod.drew ?_ | with_reducible refine Mod.drewN ?_ _ | with_reducible refine Mod.setCell ?_ (by first | exact .inl rfl | (left; (try unfold from_); show _ ≤ _; first | omega | (simp; done) | (simp; omega)) | (right; first | omega | (simp; done) | (simp; omega))) _ | with_reducible refine Mod.call0 ?_ (by with_reducible assumption) | with_reducible refine Mod.call ?_ (by with_reducible assumption) (by first | (rintro _ rfl; first | exact .inl rfl | (right; (first | omega | (simp; done) | (simp; omega)))) | (rintro _ (rfl | rfl) <;> (right; (first | omega | (simp; done) | (simp; omega))))))) : Mod nowhere w _)) (HA.out.keep0 ((by repeat (first | with_reducible exact Mod.refl _ _ | with_reducible assumption | with_reducible refine Mod.alloc ?_ _ | with_reducible refine Mod.drew ?_ | with_reducible refine Mod.drewN ?_ _ | with_reducible refine Mod.setCell ?_ (by first | exact .inl rfl | (left; (try unfold from_); show _ ≤ _; first | omega | (simp; done) | (simp; omega)) | (right; first | omega | (simp; done) | (simp; omega))) _ | with_reducible refine Mod.call0 ?_ (by with_reducible assumption) | with_reducible refine Mod.call ?_ (by with_reducible assumption) (by first | (rintro _ rfl; first | exact .inl rfl | (right; (first | omega | (simp; done) | (simp; omega)))) | (rintro _ (rfl | rfl) <;> (right; (first | omega | (simp; done) | (simp; omega))))))) : Mod nowhere w _)) HG.out hN).mono ?_)
  rintro e w6 ⟨x6, f6, rfl, hf6, hm6⟩
  have y6 : Mod nowhere w w6 := (by repeat (first | with_reducible exact Mod.refl _ _ | with_reducible assumption | with_reducible refine Mod.alloc ?_ _ | with_reducible refine Mod.drew ?_ | with_reducible refine Mod.drewN ?_ _ | with_reducible refine Mod.setCell ?_ (by first | exact .inl rfl | (left; (try unfold from_); show _ ≤ _; first | omega | (simp; done) | (simp; omega)) | (right; first | omega | (simp; done) | (simp; omega))) _ | with_reducible refine Mod.call0 ?_ (by with_reducible assumption) | with_reducible refine Mod.call ?_ (by with_reducible assumption) (by first | (rintro _ rfl; first | exact .inl rfl | (right; (first | omega | (simp; done) | (simp; omega)))) | (rintro _ (rfl | rfl) <;> (right; (first | omega | (simp; done) | (simp; omega)))))))
  have hd : own < -1 ∨ (¬ own < -1 ∧ f5 = 6) ∨ (¬ own < -1 ∧ f5 = 0 ∧ f6 = 6) := by
    rcases HB.out with h | h | h
    · exact .inl h
    · by_cases h0 : own < -1
      · exact .inl h0
      · rcases hf5 with ⟨h1, -⟩ | ⟨-, h1⟩
        · exact absurd h1 h
        · exact .inr (.inl ⟨h0, h1⟩)
    · by_cases h0 : own < -1
      · exact .inl h0
      · rcases hf5 with ⟨-, h1⟩ | ⟨-, h1⟩
        · rcases hf6 with ⟨h2, -⟩ | ⟨-, h2⟩
          · exact absurd h2 h
          · exact .inr (.inr ⟨h0, h1, h2⟩)
        · exact .inr (.inl ⟨h0, h1⟩)
  clear hf5 hf6
  rcases hd with h | ⟨h, rfl⟩ | ⟨h, rfl, rfl⟩
  all_goals
    go_wp2
    go_ret2
    exact ⟨rfl, y6⟩
set_option maxRecDepth 100000 in
set_option maxHeartbeats 2000000 in
theorem bld_full (own old new p q : Int) (w : World) (hc : IsCl w c a A) (ha : Arn_rec w a r N most cs) (i j : Nat) (hio : old = i) (hjn : new = j) (hi : i < N) (hj : j < N) (hri : Rec9 cs i 1 p 0 0 0 0 0 0 0) (hrj : Rec9 cs j 1 q 0 0 0 0 0 0 0) (ho : -1 ≤ own) (hN : most ≤ (N : Int)) (h4 : N ≤ 4096) :
    Calls Try.prog 10 #[.pointer (some ⟨c, 0, none⟩), .int .i64 own, .int .i64 old, .int .i64 new] w fun e w' => e = .returned (.tuple #[.int .i64 0, .int .i64 4]) ∧ Mod nowhere w w' := by
  subst hio hjn
  have c_hc := hc.cell; have f_hc := hc.frozen; have l_hc := hc.lt
  go_enter Try.func10, Try.ntmps10
  go_wp2_with fail
  (with_reducible refine (val_hit 1 p 0 0 0 0 0 0 0 c a r N A most cs _ (by exact (by repeat (first | with_reducible assumption | with_reducible apply Blk.new | with_reducible exact Blk.newAt (by first | rfl | (simp; done) | (simp; omega)) | with_reducible apply Blk.alloc | with_reducible apply Blk.drew | with_reducible apply Blk.drewN | with_reducible apply Blk.keep0 (hm := by with_reducible assumption) | with_reducible apply Blk.keep (hm := by with_reducible assumption) (hg := by first | omega | exact not_two (by omega) (by omega)) | with_reducible apply Blk.far (hp := by first | omega | (simp; done) | (simp; omega)) | with_reducible apply Blk.set1 | rfl))) (by exact (by repeat (first | with_reducible assumption | with_reducible apply Own.drew | with_reducible apply Own.drewN | with_reducible apply Own.alloc | with_reducible apply Own.keep0 (hm := by with_reducible assumption) | with_reducible apply Own.keep (hm := by with_reducible assumption) (hg := by first | omega | exact not_two (by omega) (by omega)) (hr := by first | omega | exact not_two (by omega) (by omega)) | with_reducible apply Own.far (hg := by first | omega | (simp; omega)) (hr := by first | omega | (simp; omega))))) (i : Int) i rfl hi (by omega) hri rfl).mono ?_)
  rintro e w5 ⟨rfl, hbw5⟩
  have hzw5 := hbw5.size
  (try simp at hzw5)
  (try (have ltw50 : c < w5.heap.size := (by omega); have lcw50 := fun o => hbw5.cell (b := c) o (by first | omega | (simp; done) | (simp; omega)) (id); have lfw50 := fun o => hbw5.frozen (b := c) o (by first | omega | (simp; done) | (simp; omega)) (id)))
  skip
  go_wp2_with fail
  (with_reducible refine (val_hit 1 q 0 0 0 0 0 0 0 c a r N A most cs _ (by exact (by repeat (first | with_reducible assumption | with_reducible apply Blk.new | with_reducible exact Blk.newAt (by first | rfl | (simp; done) | (simp; omega)) | with_reducible apply Blk.alloc | with_reducible apply Blk.drew | with_reducible apply Blk.drewN | with_reducible apply Blk.keep0 (hm := by with_reducible assumption) | with_reducible apply Blk.keep (hm := by with_reducible assumption) (hg := by first | omega | exact not_two (by omega) (by omega)) | with_reducible apply Blk.far (hp := by first | omega | (simp; done) | (simp; omega)) | with_reducible apply Blk.set1 | rfl))) (by exact (by repeat (first | with_reducible assumption | with_reducible apply Own.drew | with_reducible apply Own.drewN | with_reducible apply Own.alloc | with_reducible apply Own.keep0 (hm := by with_reducible assumption) | with_reducible apply Own.keep (hm := by with_reducible assumption) (hg := by first | omega | exact not_two (by omega) (by omega)) (hr := by first | omega | exact not_two (by omega) (by omega)) | with_reducible apply Own.far (hg := by first | omega | (simp; omega)) (hr := by first | omega | (simp; omega))))) (j : Int) j rfl hj (by omega) hrj rfl).mono ?_)
  rintro e w6 ⟨rfl, hbw6⟩
  have hzw6 := hbw6.size
  (try simp at hzw6)
  (try (have ltw60 : c < w6.heap.size := (by omega); have lcw60 := fun o => hbw6.cell (b := c) o (by first | omega | (simp; done) | (simp; omega)) (id); have lfw60 := fun o => hbw6.frozen (b := c) o (by first | omega | (simp; done) | (simp; omega)) (id)))
  skip
  have hm6 : Mod nowhere w w6 := (by repeat (first | with_reducible exact Mod.refl _ _ | with_reducible assumption | with_reducible refine Mod.alloc ?_ _ | with_reducible refine Mod.drew ?_ | with_reducible refine Mod.drewN ?_ _ | with_reducible refine Mod.setCell ?_ (by first | exact .inl rfl | (left; (try unfold from_); show _ ≤ _; first | omega | (simp; done) | (simp; omega)) | (right; first | omega | (simp; done) | (simp; omega))) _ | with_reducible refine Mod.call0 ?_ (by with_reducible assumption) | with_reducible refine Mod.call ?_ (by with_reducible assumption) (by first | (rintro _ rfl; first | exact .inl rfl | (right; (first | omega | (simp; done) | (simp; omega)))) | (rintro _ (rfl | rfl) <;> (right; (first | omega | (simp; done) | (simp; omega)))))))
  go_wp2_with fail
  (with_reducible refine (aput_full_rec 2 0 own i j 0 0 0 0 a r N most cs _ (ha.keep0 hm6) hN).mono ?_)
  rintro e w7 ⟨rfl, hm7⟩
  go_wp2
  go_ret2
  exact ⟨rfl, (by repeat (first | with_reducible exact Mod.refl _ _ | with_reducible assumption | with_reducible refine Mod.alloc ?_ _ | with_reducible refine Mod.drew ?_ | with_reducible refine Mod.drewN ?_ _ | with_reducible refine Mod.setCell ?_ (by first | exact .inl rfl | (left; (try unfold from_); show _ ≤ _; first | omega | (simp; done) | (simp; omega)) | (right; first | omega | (simp; done) | (simp; omega))) _ | with_reducible refine Mod.call0 ?_ (by with_reducible assumption) | with_reducible refine Mod.call ?_ (by with_reducible assumption) (by first | (rintro _ rfl; first | exact .inl rfl | (right; (first | omega | (simp; done) | (simp; omega)))) | (rintro _ (rfl | rfl) <;> (right; (first | omega | (simp; done) | (simp; omega)))))))⟩
end
set_option maxRecDepth 100000 in
set_option maxHeartbeats 2000000 in
theorem beg_full (t a r m N : Nat) (most : Int) (cs : List Value) (w : World) (ht : IsTab w t a m) (ha : Arn_rec w a r N most cs) (hN : most ≤ (N : Int)) :
    Calls Try.prog 13 #[.pointer (some ⟨t, 0, none⟩), .int .i64 1, .int .i64 1, .int .i64 1, .int .i64 1, .int .i64 1] w fun e w' => e = .returned (.tuple #[.int .i64 0, .int .i64 4]) ∧ Mod nowhere w w' := by
  have hmin := run_min5
  have h1 : mn (mn (mn (mn 1 1) 1) 1) 1 = 1 := by decide
  have c_ht := ht.cell; have f_ht := ht.frozen; have l_ht := ht.lt
  go_enter Try.func13, Try.ntmps13
  go_wp2_with fail
  (with_reducible refine (aput_full_rec 3 0 0 0 0 1 1 1 1 a r N most cs _ (ha.keep0 ((by repeat (first | with_reducible exact Mod.refl _ _ | with_reducible assumption | with_reducible refine Mod.alloc ?_ _ | with_reducible refine Mod.drew ?_ | with_reducible refine Mod.drewN ?_ _ | with_reducible refine Mod.setCell ?_ (by first | exact .inl rfl | (left; (try unfold from_); show _ ≤ _; first | omega | (simp; done) | (simp; omega)) | (right; first | omega | (simp; done) | (simp; omega))) _ | with_reducible refine Mod.call0 ?_ (by with_reducible assumption) | with_reducible refine Mod.call ?_ (by with_reducible assumption) (by first | (rintro _ rfl; first | exact .inl rfl | (right; (first | omega | (simp; done) | (simp; omega)))) | (rintro _ (rfl | rfl) <;> (right; (first | omega | (simp; done) | (simp; omega))))))) : Mod nowhere w _)) hN).mono ?_)
  rintro e w7 ⟨rfl, hm7⟩
  go_wp2
  go_ret2
  exact ⟨rfl, (by repeat (first | with_reducible exact Mod.refl _ _ | with_reducible assumption | with_reducible refine Mod.alloc ?_ _ | with_reducible refine Mod.drew ?_ | with_reducible refine Mod.drewN ?_ _ | with_reducible refine Mod.setCell ?_ (by first | exact .inl rfl | (left; (try unfold from_); show _ ≤ _; first | omega | (simp; done) | (simp; omega)) | (right; first | omega | (simp; done) | (simp; omega))) _ | with_reducible refine Mod.call0 ?_ (by with_reducible assumption) | with_reducible refine Mod.call ?_ (by with_reducible assumption) (by first | (rintro _ rfl; first | exact .inl rfl | (right; (first | omega | (simp; done) | (simp; omega)))) | (rintro _ (rfl | rfl) <;> (right; (first | omega | (simp; done) | (simp; omega)))))))⟩
set_option maxRecDepth 100000 in
set_option maxHeartbeats 2000000 in
theorem turn_none (t a m n : Nat) (M : Int → Option Nat) (id to : Int) (w : World) (ht : IsTab w t a m) (hm : IsPMap w m n M) (hi : I64 id) (hM : M id = none) (hto : to = 2 ∨ to = 3) :
    Calls Try.prog 14 #[.pointer (some ⟨t, 0, none⟩), .int .i64 id, .int .i64 to] w fun e w' => e = .returned (.bool false) ∧ Mod nowhere w w' := by
  have hlook : ∀ W, Mod nowhere w W → (Instr.lookup 72 (.map (some m)) (.int .i64 id) false).run Try.prog W = .ok (.pointer none) W := by
    intro W hW
    have := (hm.keep0 hW).look id hi
    rwa [hM] at this
  have l1 := hlook ((w.alloc (.cells #[.int .i64 to] 51)).alloc (.cells #[.bool false] 4)) (((Mod.refl _ _).alloc _).alloc _)
  clear hlook
  rcases hto with rfl | rfl
  all_goals
    have c_ht := ht.cell; have f_ht := ht.frozen; have l_ht := ht.lt
    go_enter Try.func14, Try.ntmps14
    go_wp2_with go_in
    all_goals go_wp2
    all_goals go_ret
    all_goals exact ⟨rfl, (by repeat (first | with_reducible exact Mod.refl _ _ | with_reducible assumption | with_reducible refine Mod.alloc ?_ _ | with_reducible refine Mod.drew ?_ | with_reducible refine Mod.drewN ?_ _ | with_reducible refine Mod.setCell ?_ (by first | exact .inl rfl | (left; (try unfold from_); show _ ≤ _; first | omega | (simp; done) | (simp; omega)) | (right; first | omega | (simp; done) | (simp; omega))) _ | with_reducible refine Mod.call0 ?_ (by with_reducible assumption) | with_reducible refine Mod.call ?_ (by with_reducible assumption) (by first | (rintro _ rfl; first | exact .inl rfl | (right; (first | omega | (simp; done) | (simp; omega)))) | (rintro _ (rfl | rfl) <;> (right; (first | omega | (simp; done) | (simp; omega)))))))⟩
theorem cswap_out (c a r n : Nat) (cs : List Value) (i old new : Int) (w : World) (h : Cls w c a r n cs) (hi : i < 0 ∨ (n : Int) ≤ i) :
    Calls Try.prog 12 #[.pointer (some ⟨c, 0, none⟩), .int .i64 i, .int .i64 old, .int .i64 new] w fun e w' => e = .returned (.bool false) ∧ Mod nowhere w w' := by
  by_cases h0 : i < 0
  · have e1 : decide (0 ≤ i) = false := by simp; omega
    go_enter Try.func12, Try.ntmps12
    go_wp2
    go_ret
    exact ⟨rfl, (by repeat (first | with_reducible exact Mod.refl _ _ | with_reducible assumption | with_reducible refine Mod.alloc ?_ _ | with_reducible refine Mod.drew ?_ | with_reducible refine Mod.drewN ?_ _ | with_reducible refine Mod.setCell ?_ (by first | exact .inl rfl | (left; (try unfold from_); show _ ≤ _; first | omega | (simp; done) | (simp; omega)) | (right; first | omega | (simp; done) | (simp; omega))) _ | with_reducible refine Mod.call0 ?_ (by with_reducible assumption) | with_reducible refine Mod.call ?_ (by with_reducible assumption) (by first | (rintro _ rfl; first | exact .inl rfl | (right; (first | omega | (simp; done) | (simp; omega)))) | (rintro _ (rfl | rfl) <;> (right; (first | omega | (simp; done) | (simp; omega)))))))⟩
  · have h2 : (n : Int) ≤ i := by omega
    have h3 : 0 ≤ i := by omega
    have e1 : decide (i < (n : Int)) = false := by simp; omega
    go_enter Try.func12, Try.ntmps12
    go_wp2_with (go_at_call 6; (with_reducible refine (obj_calls c a r n cs _ (by exact (by repeat (first | with_reducible assumption | with_reducible apply Own.drew | with_reducible apply Own.drewN | with_reducible apply Own.alloc | with_reducible apply Own.keep0 (hm := by with_reducible assumption) | with_reducible apply Own.keep (hm := by with_reducible assumption) (hg := by first | omega | exact not_two (by omega) (by omega)) (hr := by first | omega | exact not_two (by omega) (by omega)) | with_reducible apply Own.far (hg := by first | omega | (simp; omega)) (hr := by first | omega | (simp; omega)))))).mono ?_); rintro e w5 ⟨rfl, hbw5⟩; have hzw5 := hbw5.size; (try simp at hzw5); (try (have ltw50 : c < w5.heap.size := (by omega); have lcw50 := fun o => hbw5.cell (b := c) o (by first | omega | (simp; done) | (simp; omega)) (id); have lfw50 := fun o => hbw5.frozen (b := c) o (by first | omega | (simp; done) | (simp; omega)) (id))); skip)
    go_ret
    exact ⟨rfl, (by repeat (first | with_reducible exact Mod.refl _ _ | with_reducible assumption | with_reducible refine Mod.alloc ?_ _ | with_reducible refine Mod.drew ?_ | with_reducible refine Mod.drewN ?_ _ | with_reducible refine Mod.setCell ?_ (by first | exact .inl rfl | (left; (try unfold from_); show _ ≤ _; first | omega | (simp; done) | (simp; omega)) | (right; first | omega | (simp; done) | (simp; omega))) _ | with_reducible refine Mod.call0 ?_ (by with_reducible assumption) | with_reducible refine Mod.call ?_ (by with_reducible assumption) (by first | (rintro _ rfl; first | exact .inl rfl | (right; (first | omega | (simp; done) | (simp; omega)))) | (rintro _ (rfl | rfl) <;> (right; (first | omega | (simp; done) | (simp; omega)))))))⟩
theorem cur_out (c a r n : Nat) (cs : List Value) (t : Value) (i : Int) (w : World) (h : Cls w c a r n cs) (hi : i < 0 ∨ (n : Int) ≤ i) :
    Calls Try.prog 20 #[.pointer (some ⟨c, 0, none⟩), t, .int .i64 i] w fun e w' => e = .returned (.tuple #[.int .i64 0, .int .i64 6]) ∧ Mod nowhere w w' := by
  go_enter Try.func20, Try.ntmps20
  go_wp2_with (go_at_call 19; (with_reducible refine (cload_out c a r n cs i _ (by exact (by repeat (first | with_reducible assumption | with_reducible apply Own.drew | with_reducible apply Own.drewN | with_reducible apply Own.alloc | with_reducible apply Own.keep0 (hm := by with_reducible assumption) | with_reducible apply Own.keep (hm := by with_reducible assumption) (hg := by first | omega | exact not_two (by omega) (by omega)) (hr := by first | omega | exact not_two (by omega) (by omega)) | with_reducible apply Own.far (hg := by first | omega | (simp; omega)) (hr := by first | omega | (simp; omega))))) hi).mono ?_); rintro e w5 ⟨rfl, hbw5⟩; have hzw5 := hbw5.size; (try simp at hzw5); skip; skip)
  go_ret2
  exact ⟨rfl, (by repeat (first | with_reducible exact Mod.refl _ _ | with_reducible assumption | with_reducible refine Mod.alloc ?_ _ | with_reducible refine Mod.drew ?_ | with_reducible refine Mod.drewN ?_ _ | with_reducible refine Mod.setCell ?_ (by first | exact .inl rfl | (left; (try unfold from_); show _ ≤ _; first | omega | (simp; done) | (simp; omega)) | (right; first | omega | (simp; done) | (simp; omega))) _ | with_reducible refine Mod.call0 ?_ (by with_reducible assumption) | with_reducible refine Mod.call ?_ (by with_reducible assumption) (by first | (rintro _ rfl; first | exact .inl rfl | (right; (first | omega | (simp; done) | (simp; omega)))) | (rintro _ (rfl | rfl) <;> (right; (first | omega | (simp; done) | (simp; omega)))))))⟩
set_option maxHeartbeats 2000000 in
theorem cnew_bad (a n cap : Nat) (A : Option Addr) (w : World) (h : n < 1 ∨ 8 < n) (h20 : n ≤ 20) :
    Calls Try.prog 23 #[.pointer (some ⟨a, 0, none⟩), .slice A n cap] w fun e w' => e = .returned (.tuple #[.pointer none, .int .i64 2]) ∧ Mod nowhere w w' := by
  rcases (show n < 1 ∨ (¬ n < 1 ∧ 8 < n) by omega) with h | ⟨h0, h⟩
  · have z1 : decide (n < 1) = true := by simp; omega
    go_enter Try.func23, Try.ntmps23
    go_wp2
    go_ret2
    exact ⟨rfl, (by repeat (first | with_reducible exact Mod.refl _ _ | with_reducible assumption | with_reducible refine Mod.alloc ?_ _ | with_reducible refine Mod.drew ?_ | with_reducible refine Mod.drewN ?_ _ | with_reducible refine Mod.setCell ?_ (by first | exact .inl rfl | (left; (try unfold from_); show _ ≤ _; first | omega | (simp; done) | (simp; omega)) | (right; first | omega | (simp; done) | (simp; omega))) _ | with_reducible refine Mod.call0 ?_ (by with_reducible assumption) | with_reducible refine Mod.call ?_ (by with_reducible assumption) (by first | (rintro _ rfl; first | exact .inl rfl | (right; (first | omega | (simp; done) | (simp; omega)))) | (rintro _ (rfl | rfl) <;> (right; (first | omega | (simp; done) | (simp; omega)))))))⟩
  · have z1 : decide (n < 1) = false := by simp; omega
    have z2 : decide (8 < n) = true := by simp; omega
    go_enter Try.func23, Try.ntmps23
    go_wp2
    go_ret2
    exact ⟨rfl, (by repeat (first | with_reducible exact Mod.refl _ _ | with_reducible assumption | with_reducible refine Mod.alloc ?_ _ | with_reducible refine Mod.drew ?_ | with_reducible refine Mod.drewN ?_ _ | with_reducible refine Mod.setCell ?_ (by first | exact .inl rfl | (left; (try unfold from_); show _ ≤ _; first | omega | (simp; done) | (simp; omega)) | (right; first | omega | (simp; done) | (simp; omega))) _ | with_reducible refine Mod.call0 ?_ (by with_reducible assumption) | with_reducible refine Mod.call ?_ (by with_reducible assumption) (by first | (rintro _ rfl; first | exact .inl rfl | (right; (first | omega | (simp; done) | (simp; omega)))) | (rintro _ (rfl | rfl) <;> (right; (first | omega | (simp; done) | (simp; omega)))))))⟩
set_option maxHeartbeats 2000000 in
theorem cnew_full (a n cap : Nat) (A : Option Addr) (most : Int) (w : World) (h1 : 1 ≤ n) (h8 : n ≤ 8) (h2 : most < 2 * (n : Int)) (h0 : 0 ≤ most) (h4 : most ≤ 4096) (ha : Arn_rec w a a 0 most []) :
    Calls Try.prog 23 #[.pointer (some ⟨a, 0, none⟩), .slice A n cap] w fun e w' => e = .returned (.tuple #[.pointer none, .int .i64 4]) ∧ Mod nowhere w w' := by
  have l_a := ha.lt
  have z1 : decide (n < 1) = false := by simp; omega
  have z2 : decide (8 < n) = false := by simp; omega
  go_enter Try.func23, Try.ntmps23
  go_wp2_with (go_at_call 35; (with_reducible refine (aleft_rec a a 0 most [] _ (by exact (by repeat (first | with_reducible assumption | with_reducible apply Own.drew | with_reducible apply Own.drewN | with_reducible apply Own.alloc | with_reducible apply Own.keep0 (hm := by with_reducible assumption) | with_reducible apply Own.keep (hm := by with_reducible assumption) (hg := by first | omega | exact not_two (by omega) (by omega)) (hr := by first | omega | exact not_two (by omega) (by omega)) | with_reducible apply Own.far (hg := by first | omega | (simp; omega)) (hr := by first | omega | (simp; omega))))) (by omega) (by omega)).mono ?_); rintro e w5 ⟨rfl, hbw5⟩; have hzw5 := hbw5.size; (try simp at hzw5); skip; skip)
  go_ret2
  exact ⟨rfl, (by repeat (first | with_reducible exact Mod.refl _ _ | with_reducible assumption | with_reducible refine Mod.alloc ?_ _ | with_reducible refine Mod.drew ?_ | with_reducible refine Mod.drewN ?_ _ | with_reducible refine Mod.setCell ?_ (by first | exact .inl rfl | (left; (try unfold from_); show _ ≤ _; first | omega | (simp; done) | (simp; omega)) | (right; first | omega | (simp; done) | (simp; omega))) _ | with_reducible refine Mod.call0 ?_ (by with_reducible assumption) | with_reducible refine Mod.call ?_ (by with_reducible assumption) (by first | (rintro _ rfl; first | exact .inl rfl | (right; (first | omega | (simp; done) | (simp; omega)))) | (rintro _ (rfl | rfl) <;> (right; (first | omega | (simp; done) | (simp; omega)))))))⟩
set_option maxRecDepth 100000 in
theorem made4_bad (most : Int) (A : Option Addr) (n cap : Nat) (w : World) (h1 : 1 ≤ most) (h4 : most ≤ 4096) (k : Int) (hk : (n < 1 ∨ 8 < n) ∧ n ≤ 20 ∧ k = 2 ∨ 1 ≤ n ∧ n ≤ 8 ∧ most < 2 * (n : Int) ∧ k = 4) :
    Calls Try.prog 5 #[.int .i64 most, .slice A n cap] w fun e w' => ∃ p q, e = .returned (.tuple #[p, q, .pointer none, .int .i64 k]) ∧ Mod nowhere w w' := by
  have ha := Arn.new w 87 45 9 most
  go_enter Try.func5, Try.ntmps5
  go_wp2_with (go_at_call 21; (with_reducible refine (anew_rec most _ (by omega) h4).mono ?_); rintro e w' ⟨rfl, rfl⟩)
  (with_reducible refine (dnew_calls _ _).mono ?_)
  rintro e w1 ⟨rfl, ht, hm, hm1⟩
  have y1 : Mod nowhere w w1 := (by repeat (first | with_reducible exact Mod.refl _ _ | with_reducible assumption | with_reducible refine Mod.alloc ?_ _ | with_reducible refine Mod.drew ?_ | with_reducible refine Mod.drewN ?_ _ | with_reducible refine Mod.setCell ?_ (by first | exact .inl rfl | (left; (try unfold from_); show _ ≤ _; first | omega | (simp; done) | (simp; omega)) | (right; first | omega | (simp; done) | (simp; omega))) _ | with_reducible refine Mod.call0 ?_ (by with_reducible assumption) | with_reducible refine Mod.call ?_ (by with_reducible assumption) (by first | (rintro _ rfl; first | exact .inl rfl | (right; (first | omega | (simp; done) | (simp; omega)))) | (rintro _ (rfl | rfl) <;> (right; (first | omega | (simp; done) | (simp; omega)))))))
  have ha1 := ha.keep0 hm1
  rcases hk with ⟨h, h20, rfl⟩ | ⟨n1, n8, h, rfl⟩
  · go_wp2_with fail
    (with_reducible refine (cnew_bad w.heap.size n cap A _ h h20).mono ?_)
    rintro e w2 ⟨rfl, hm2⟩
    go_wp2
    exact bodyPost_ret (v := .tuple #[.pointer (some ⟨w.heap.size, 0, none⟩), .pointer (some ⟨w.heap.size + 1 + 1, 0, none⟩), .pointer none, .int .i64 2]) (by simp [results, Try.results5, go_sem, *]) rfl ⟨_, _, rfl, (by repeat (first | with_reducible exact Mod.refl _ _ | with_reducible assumption | with_reducible refine Mod.alloc ?_ _ | with_reducible refine Mod.drew ?_ | with_reducible refine Mod.drewN ?_ _ | with_reducible refine Mod.setCell ?_ (by first | exact .inl rfl | (left; (try unfold from_); show _ ≤ _; first | omega | (simp; done) | (simp; omega)) | (right; first | omega | (simp; done) | (simp; omega))) _ | with_reducible refine Mod.call0 ?_ (by with_reducible assumption) | with_reducible refine Mod.call ?_ (by with_reducible assumption) (by first | (rintro _ rfl; first | exact .inl rfl | (right; (first | omega | (simp; done) | (simp; omega)))) | (rintro _ (rfl | rfl) <;> (right; (first | omega | (simp; done) | (simp; omega)))))))⟩
  · go_wp2_with fail
    (with_reducible refine (cnew_full w.heap.size n cap A most _ n1 n8 h (by omega) h4 (by exact (by repeat (first | with_reducible assumption | with_reducible apply Own.drew | with_reducible apply Own.drewN | with_reducible apply Own.alloc | with_reducible apply Own.keep0 (hm := by with_reducible assumption) | with_reducible apply Own.keep (hm := by with_reducible assumption) (hg := by first | omega | exact not_two (by omega) (by omega)) (hr := by first | omega | exact not_two (by omega) (by omega)) | with_reducible apply Own.far (hg := by first | omega | (simp; omega)) (hr := by first | omega | (simp; omega)))))).mono ?_)
    rintro e w2 ⟨rfl, hm2⟩
    go_wp2
    exact bodyPost_ret (v := .tuple #[.pointer (some ⟨w.heap.size, 0, none⟩), .pointer (some ⟨w.heap.size + 1 + 1, 0, none⟩), .pointer none, .int .i64 4]) (by simp [results, Try.results5, go_sem, *]) rfl ⟨_, _, rfl, (by repeat (first | with_reducible exact Mod.refl _ _ | with_reducible assumption | with_reducible refine Mod.alloc ?_ _ | with_reducible refine Mod.drew ?_ | with_reducible refine Mod.drewN ?_ _ | with_reducible refine Mod.setCell ?_ (by first | exact .inl rfl | (left; (try unfold from_); show _ ≤ _; first | omega | (simp; done) | (simp; omega)) | (right; first | omega | (simp; done) | (simp; omega))) _ | with_reducible refine Mod.call0 ?_ (by with_reducible assumption) | with_reducible refine Mod.call ?_ (by with_reducible assumption) (by first | (rintro _ rfl; first | exact .inl rfl | (right; (first | omega | (simp; done) | (simp; omega)))) | (rintro _ (rfl | rfl) <;> (right; (first | omega | (simp; done) | (simp; omega)))))))⟩
end Go.Proofs.Ytanmibdnnjfpbaa
