/- The law CellsClaim, walked. -/
import Derived.Test.YtanmibdnnjfpbaaCells9
import Derived.IntWalk
namespace Go.Proofs.Ytanmibdnnjfpbaa
open Go.RowKit

section
variable {B r N nd : Nat} {K : KD} {cs : List Value} {v : Nat → Nat} {M : Int → Option Nat} {q : Int → Nat} {st : Int → Int}
theorem sys_loc (w : World) (h : Sys w B K r N cs v nd M q st) (ix : Int) (i : Nat) (own old new : Int) (hix : ix = i) (hi : i < N) (hr : Rec9 cs i 2 0 own old new 0 0 0 0) :
    Calls Try.prog 31 #[.pointer (some ⟨K.c, 0, none⟩), .int .i64 ix] w fun e w' => e = .returned (.tuple #[.agg #[.int .i64 2, .int .i64 0, .int .i64 own, .int .i64 old, .int .i64 new, .int .i64 0, .int .i64 0, .int .i64 0, .int .i64 0], .int .i64 0]) ∧ Mod nowhere w w' := by
  obtain ⟨A, cap, hc, -⟩ := h.cf.cls
  have hfit := h.fit
  have h4' := h.m4
  exact loc_hit 2 0 own old new 0 0 0 0 K.c K.a r N (.slice A K.k cap) K.most cs w hc h.cf.arn ix i hix hi (by omega) hr rfl
theorem sys_val (w : World) (h : Sys w B K r N cs v nd M q st) (ix : Int) (i : Nat) (x : Int) (hix : ix = i) (hi : i < N) (hr : Rec9 cs i 1 x 0 0 0 0 0 0 0) :
    Calls Try.prog 25 #[.pointer (some ⟨K.c, 0, none⟩), .int .i64 ix] w fun e w' => e = .returned (.tuple #[.int .i64 x, .int .i64 0]) ∧ Mod nowhere w w' := by
  obtain ⟨A, cap, hc, -⟩ := h.cf.cls
  have hfit := h.fit
  have h4' := h.m4
  exact val_hit 1 x 0 0 0 0 0 0 0 K.c K.a r N (.slice A K.k cap) K.most cs w hc h.cf.arn ix i hix hi (by omega) hr rfl
theorem sys_swap_yes (w : World) (h : Sys w B K r N cs v nd M q st) (ix old new : Int) (i x : Nat) (hix : ix = i) (hi : i < K.k) (hn : new = x) (he : (v i : Int) = old) :
    Calls Try.prog 12 #[.pointer (some ⟨K.c, 0, none⟩), .int .i64 ix, .int .i64 old, .int .i64 new] w fun e w' => e = .returned (.bool true) ∧ Sys w' B K r N cs (upd v i x) nd M q st ∧ Mod (Wd K M q) w w' := by
  have := sys_swap w h ix old new i x hix hi hn
  rwa [if_pos he, show ((v i : Int) == old) = true from beq_iff_eq.2 he] at this
theorem sys_swap_no (w : World) (h : Sys w B K r N cs v nd M q st) (ix old new : Int) (i : Nat) (hix : ix = i) (hi : i < K.k) (he : ¬ (v i : Int) = old) :
    Calls Try.prog 12 #[.pointer (some ⟨K.c, 0, none⟩), .int .i64 ix, .int .i64 old, .int .i64 new] w fun e w' => e = .returned (.bool false) ∧ Sys w' B K r N cs v nd M q st ∧ Mod (Wd K M q) w w' := by
  obtain ⟨acc, hw⟩ := h.cf.wrd i hi
  refine (cswap_ok K.c K.a K.rc K.k K.ws ix old new i (K.s i) (v i) acc w h.cf.cls hix hi h.k8 (h.cf.at_ i hi) hw).mono ?_
  rintro e w' ⟨rfl, h7, hm⟩
  rw [if_neg he] at h7
  rw [show ((v i : Int) == old) = false from beq_eq_false_iff_ne.2 he]
  exact ⟨rfl, h.sameCellWord hi hm h7, hm.mono fun b e => .inl ⟨i, hi, e⟩⟩
theorem In.newr {w : World} {r' b : Nat} (h : ¬ In K r M q b) (hb : b < w.heap.size) (hr : r' = r ∨ w.heap.size ≤ r') : ¬ In K r' M q b := by
  rintro (e | e | e | e | e)
  · exact h (.inl e)
  · exact h (.inr (.inl e))
  · exact h (.inr (.inr (.inl e)))
  · rcases hr with hr | hr
    · exact h (.inr (.inr (.inr (.inl (e.trans hr)))))
    · omega
  · exact h (.inr (.inr (.inr (.inr e))))
theorem First.ver {l : List Int} {n i : Nat} {x : Int} (h : First l n cs) (hi : i < n) (hx : l[i]? = some x) : Rec9 cs (2 * i) 1 x 0 0 0 0 0 0 0 := (h i x hi hx).1
theorem First.loc {l : List Int} {n i : Nat} {x : Int} (h : First l n cs) (hi : i < n) (hx : l[i]? = some x) : Rec9 cs (2 * i + 1) 2 0 (-1) (2 * (i : Int)) (2 * (i : Int)) 0 0 0 0 := (h i x hi hx).2
theorem First.cur {l : List Int} {n N i : Nat} {x : Int} (h : First l n cs) (hi : i < n) (hx : l[i]? = some x) (hN : 2 * n ≤ N) : Cur cs N st (2 * i + 1) x := by
  obtain ⟨h1, h2⟩ := h i x hi hx
  exact ⟨-1, 2 * (i : Int), 2 * (i : Int), 2 * i, by omega, h2, by unfold I64; omega, by simp, by omega, h1⟩
end
theorem Reads.keepMod {w w' : World} {B n : Nat} {A : Option Addr} {xs : List Value} (h : Reads w B 1 A n xs) (hB : B ≤ w.heap.size) (hm : Mod nowhere w w') : Reads w' B 1 A n xs :=
  h.keep fun p hp => World.cell?_of_block (hm.block p.block (by omega) id)
theorem sys_all_n {B r N nd : Nat} {K : KD} {cs : List Value} {v : Nat → Nat} {M : Int → Option Nat} {q : Int → Nat} {st : Int → Int} (w : World) (h : Sys w B K r N cs v nd M q st) (l : List Int) (n : Nat) (hk : K.k = n) (hl : l.length = n) (hc : ∀ i x, l[i]? = some x → Cur cs N st (v i) x) :
    Calls Try.prog 16 #[.pointer (some ⟨K.c, 0, none⟩), .pointer (some ⟨K.t, 0, none⟩)] w fun e w' => ∃ z, e = .returned z ∧ LocRow w' w.heap.size 2 1 z n (l.map (Value.int .i64)) ∧ Sys w' B K r N cs v nd M q st ∧ Mod (Wd K M q) w w' := by
  subst hk
  exact sys_all w h l hl hc
theorem LocRow.reads {w : World} {H n : Nat} {E : TypeId} {size : Nat} {z : Value} {xs : List Value} (h : LocRow w H E size z n xs) : ∃ A c, z = .slice A n c ∧ Reads w w.heap.size size A n xs := by
  obtain ⟨A, cap, rfl, ho, -⟩ := h
  exact ⟨A, cap, rfl, Reads.of_own ho⟩

end Go.Proofs.Ytanmibdnnjfpbaa
