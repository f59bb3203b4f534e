/- The law CellsAtOnce, walked. -/
import Derived.Test.YtanmibdnnjfpbaaCells10
namespace Go.Proofs.Ytanmibdnnjfpbaa
open Go.RowKit

theorem emptyRow (w : World) (E : TypeId) : (w.alloc (.cells #[] E)).ownsRow 0 E 1 (.slice (some ⟨w.heap.size, 0, none⟩) 0 0) 0 [] :=
  ⟨rfl, .inr ⟨w.heap.size, 0, #[], rfl, Nat.zero_le _, Blk.new w E #[], Nat.le_refl _, by unfold maxLen; omega, rfl, rfl⟩⟩
/-- The numbers of the objects' locators, the first k of which were swapped. -/
def vk (n k : Nat) (i : Nat) : Nat := if i < k then 2 * n + 2 + 2 * i else 2 * i + 1
theorem vk_zero (n : Nat) : vk n 0 = fun i => 2 * i + 1 := by funext i; simp [vk]
theorem vk_at (n k : Nat) : vk n k k = 2 * k + 1 := by simp [vk]
theorem vk_succ (n k : Nat) : upd (vk n k) k (2 * n + 2 + 2 * k) = vk n (k + 1) := by
  funext i
  unfold upd vk
  by_cases h : i = k
  · subst h; simp
  · rw [if_neg h]
    by_cases h2 : i < k
    · rw [if_pos h2, if_pos (by omega)]
    · rw [if_neg h2, if_neg (by omega)]
def AtO (l3 : List Int) (n k : Nat) (cs : List Value) : Prop := ∀ i x, i < k → l3[i]? = some x →
  Rec9 cs (2 * n + 1 + 2 * i) 1 x 0 0 0 0 0 0 0 ∧ Rec9 cs (2 * n + 2 + 2 * i) 2 0 (2 * (n : Int)) (2 * (i : Int)) (2 * (n : Int) + 1 + 2 * (i : Int)) 0 0 0 0
theorem AtO.more {l3 : List Int} {n k : Nat} {cs cs' : List Value} (h : AtO l3 n k cs) : AtO l3 n k (cs ++ cs') := fun i x hi hx => ⟨(h i x hi hx).1.more, (h i x hi hx).2.more⟩
theorem AtO.snoc {l3 : List Int} {n k : Nat} {cs : List Value} {x : Int} (h : AtO l3 n k cs) (hx : l3[k]? = some x) (h1 : Rec9 cs (2 * n + 1 + 2 * k) 1 x 0 0 0 0 0 0 0) (h2 : Rec9 cs (2 * n + 2 + 2 * k) 2 0 (2 * (n : Int)) (2 * (k : Int)) (2 * (n : Int) + 1 + 2 * (k : Int)) 0 0 0 0) : AtO l3 n (k + 1) cs := by
  intro i y hi hy
  by_cases hik : i < k
  · exact h i y hik hy
  · obtain rfl : i = k := by omega
    rw [hx] at hy
    obtain rfl := Option.some.inj hy
    exact ⟨h1, h2⟩
/-- Whoever has not committed: all values are the first ones. -/
theorem AtO.cur {l l3 : List Int} {n k N i : Nat} {cs : List Value} {st : Int → Int} {x : Int} (h : AtO l3 n k cs) (hF : First l n cs) (hi : i < n) (hx : l[i]? = some x) (hk3 : k ≤ l3.length) (hn8 : n ≤ 8) (hN : N = 2 * n + 1 + 2 * k) (hst : st (2 * (n : Int)) ≠ 2) : Cur cs N st (vk n k i) x := by
  by_cases hik : i < k
  · have e : vk n k i = 2 * n + 2 + 2 * i := if_pos hik
    rw [e]
    obtain ⟨h1, h2⟩ := h i _ hik (List.getElem?_eq_getElem (show i < l3.length by omega))
    exact Cur.mk _ _ _ (2 * i) (by omega) h2 (by unfold I64; omega) (by rw [if_neg (by omega)]; omega) (by omega) (First.ver hF hi hx)
  · have e : vk n k i = 2 * i + 1 := if_neg hik
    rw [e]
    exact First.cur hF hi hx (by omega)
/-- Behind the commit: the new values, and the first ones of the others. -/
theorem AtO.done {l l3 : List Int} {n k N i : Nat} {cs : List Value} {st : Int → Int} {x : Int} (h : AtO l3 n k cs) (hF : First l n cs) (hi : i < n) (hx : (l3.take k ++ l.drop k)[i]? = some x) (hk3 : k ≤ l3.length) (hn8 : n ≤ 8) (hN : N = 2 * n + 1 + 2 * k) (hst : st (2 * (n : Int)) = 2) : Cur cs N st (vk n k i) x := by
  have hlen : (l3.take k).length = k := by rw [List.length_take]; omega
  by_cases hik : i < k
  · have e : vk n k i = 2 * n + 2 + 2 * i := if_pos hik
    rw [e]
    rw [List.getElem?_append_left (by omega), List.getElem?_take, if_pos hik] at hx
    obtain ⟨h1, h2⟩ := h i _ hik hx
    exact Cur.mk _ _ _ (2 * n + 1 + 2 * i) (by omega) h2 (by unfold I64; omega) (by rw [if_pos (.inr hst)]; omega) (by omega) h1
  · have e : vk n k i = 2 * i + 1 := if_neg hik
    rw [e]
    rw [List.getElem?_append_right (by omega), hlen, List.getElem?_drop, show k + (i - k) = i by omega] at hx
    exact First.cur hF hi hx (by omega)
theorem take_drop_set {l l3 : List Int} {k : Nat} {x : Int} (hx : l3[k]? = some x) (hk : k < l.length) : ((l3.take k ++ l.drop k).map (Value.int .i64)).set k (.int .i64 x) = (l3.take (k + 1) ++ l.drop (k + 1)).map (Value.int .i64) := by
  have hlen : (l3.take k).length = k := by rw [List.length_take]; have := (List.getElem?_eq_some_iff.1 hx).1; omega
  rw [List.map_append, List.set_append_right _ _ (by rw [List.length_map]; omega), List.length_map, hlen, Nat.sub_self, List.drop_eq_getElem_cons hk, List.take_add_one, hx]
  simp only [List.map_cons, List.set_cons_zero, List.map_append, Option.toList, List.append_assoc, List.cons_append, List.nil_append]
theorem ownsRow_blk {w : World} {E : TypeId} {size g n cap : Nat} {xs : List Value} (h : w.ownsRow 0 E size (.slice (some ⟨g, 0, none⟩) n cap) n xs) : ∃ cur, Blk w g E cur := by
  obtain ⟨-, h | ⟨q', cap', cur, h1, -, h3, -⟩⟩ := h
  · cases h.1
  · injection h1 with h1 _ _
    obtain rfl : g = q' := by injection h1 with h1; injection h1
    exact ⟨cur, h3⟩
theorem sys_turn_yes {B r N nd : Nat} {K : KD} {cs : List Value} {v : Nat → Nat} {M : Int → Option Nat} {q : Int → Nat} {st : Int → Int} (w : World) (h : Sys w B K r N cs v nd M q st) (id to : Int) (d : Nat) (hi : I64 id) (hM : M id = some d) (h1 : st id = 1) (h2 : to = 2 ∨ to = 3) :
    Calls Try.prog 14 #[.pointer (some ⟨K.t, 0, none⟩), .int .i64 id, .int .i64 to] w
      fun e w' => e = .returned (.bool true) ∧ Sys w' B K r N cs v nd M q (updz st id to) ∧ Mod (Wd K M q) w w' := by
  have := sys_turn w h id to d hi hM
  rwa [if_pos ⟨h1, h2⟩, decide_eq_true (⟨h1, h2⟩ : st id = 1 ∧ (to = 2 ∨ to = 3))] at this
theorem sys_turn_no {B r N nd : Nat} {K : KD} {cs : List Value} {v : Nat → Nat} {M : Int → Option Nat} {q : Int → Nat} {st : Int → Int} (w : World) (h : Sys w B K r N cs v nd M q st) (id to : Int) (d : Nat) (hi : I64 id) (hM : M id = some d) (h1 : ¬ st id = 1) :
    Calls Try.prog 14 #[.pointer (some ⟨K.t, 0, none⟩), .int .i64 id, .int .i64 to] w
      fun e w' => e = .returned (.bool false) ∧ Sys w' B K r N cs v nd M q st ∧ Mod (Wd K M q) w w' := by
  have hup : (updz st id (st id)) = st := by funext j; by_cases e : j = id <;> simp [updz, e]
  have := sys_turn w h id to d hi hM
  rwa [if_neg (fun e => h1 e.1), decide_eq_false (fun e => h1 e.1), hup] at this
theorem sys_load_at {B r N nd : Nat} {K : KD} {cs : List Value} {v : Nat → Nat} {M : Int → Option Nat} {q : Int → Nat} {st : Int → Int} (w : World) (h : Sys w B K r N cs v nd M q st) (ix x : Int) (i : Nat) (hix : ix = i) (hi : i < K.k) (hx : (v i : Int) = x) :
    Calls Try.prog 19 #[.pointer (some ⟨K.c, 0, none⟩), .int .i64 ix] w fun e w' => e = .returned (.tuple #[.int .i64 x, .int .i64 0]) ∧ Sys w' B K r N cs v nd M q st ∧ Mod (Wd K M q) w w' := by
  subst hx
  exact sys_load w h ix i hix hi

end Go.Proofs.Ytanmibdnnjfpbaa
