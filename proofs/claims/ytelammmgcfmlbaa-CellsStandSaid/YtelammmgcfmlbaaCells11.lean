/- The law CellsAtOnce, walked. -/
import Derived.Test.YtelammmgcfmlbaaCells10
namespace Go.Proofs.Ytelammmgcfmlbaa
open Go.RowKit

theorem emptyRow (w : World) (E : TypeId) : (w.alloc (.cells #[] E)).ownsRow 0 E 1 (.slice (some ⟨w.heap.size, 0, none⟩) 0 0) 0 [] :=
  ⟨rfl, .inr ⟨w.heap.size, 0, #[], rfl, Nat.zero_le _, Blk.new w E #[], Nat.le_refl _, by unfold maxLen; omega, rfl, rfl⟩⟩
/-- The numbers of the objects' locators, the first k of which were swapped. -/
def vk (n k : Nat) (i : Nat) : Nat := if i < k then 2 * n + 2 + 2 * i else 2 * i + 1
theorem vk_zero (n : Nat) : vk n 0 = fun i => 2 * i + 1 := by funext i; simp [vk]
theorem vk_at (n k : Nat) : vk n k k = 2 * k + 1 := by simp [vk]
theorem vk_succ (n k : Nat) : upd (vk n k) k (2 * n + 2 + 2 * k) = vk n (k + 1) := by
  funext i
  unfold upd vk
  by_cases h : i = k
  · subst h; simp
  · rw [if_neg h]
    by_cases h2 : i < k
    · rw [if_pos h2, if_pos (by omega)]
    · rw [if_neg h2, if_neg (by omega)]
def AtO (l3 : List Int) (n k : Nat) (cs : List Value) : Prop := ∀ i x, i < k → l3[i]? = some x →
  Rec9 cs (2 * n + 1 + 2 * i) 1 x 0 0 0 0 0 0 0 ∧ Rec9 cs (2 * n + 2 + 2 * i) 2 0 (2 * (n : Int)) (2 * (i : Int)) (2 * (n : Int) + 1 + 2 * (i : Int)) 0 0 0 0
theorem AtO.more {l3 : List Int} {n k : Nat} {cs cs' : List Value} (h : AtO l3 n k cs) : AtO l3 n k (cs ++ cs') := fun i x hi hx => ⟨(h i x hi hx).1.more, (h i x hi hx).2.more⟩
theorem AtO.snoc {l3 : List Int} {n k : Nat} {cs : List Value} {x : Int} (h : AtO l3 n k cs) (hx : l3[k]? = some x) (h1 : Rec9 cs (2 * n + 1 + 2 * k) 1 x 0 0 0 0 0 0 0) (h2 : Rec9 cs (2 * n + 2 + 2 * k) 2 0 (2 * (n : Int)) (2 * (k : Int)) (2 * (n : Int) + 1 + 2 * (k : Int)) 0 0 0 0) : AtO l3 n (k + 1) cs := by
  intro i y hi hy
  by_cases hik : i < k
  · exact h i y hik hy
  · obtain rfl : i = k := by omega
    rw [hx] at hy
    obtain rfl := Option.some.inj hy
    exact ⟨h1, h2⟩
/-- Whoever has not committed: all values are the first ones. -/
theorem AtO.cur {l l3 : List Int} {n k N i : Nat} {cs : List Value} {st : Int → Int} {x : Int} (h : AtO l3 n k cs) (hF : First l n cs) (hi : i < n) (hx : l[i]? = some x) (hk3 : k ≤ l3.length) (hn8 : n ≤ 8) (hN : N = 2 * n + 1 + 2 * k) (hst : st (2 * (n : Int)) ≠ 2) : Cur cs N st (vk n k i) x := by
  by_cases hik : i < k
  · have e : vk n k i = 2 * n + 2 + 2 * i := if_pos hik
    rw [e]
    obtain ⟨h1, h2⟩ := h i _ hik (List.getElem?_eq_getElem (show i < l3.length by omega))
    exact Cur.mk _ _ _ (2 * i) (by omega) h2 (by unfold I64; omega) (by rw [if_neg (by omega)]; omega) (by omega) (First.ver hF hi hx)
  · have e : vk n k i = 2 * i + 1 := if_neg hik
    rw [e]
    exact First.cur hF hi hx (by omega)
/-- Behind the commit: the new values, and the first ones of the others. -/
theorem AtO.done {l l3 : List Int} {n k N i : Nat} {cs : List Value} {st : Int → Int} {x : Int} (h : AtO l3 n k cs) (hF : First l n cs) (hi : i < n) (hx : (l3.take k ++ l.drop k)[i]? = some x) (hk3 : k ≤ l3.length) (hn8 : n ≤ 8) (hN : N = 2 * n + 1 + 2 * k) (hst : st (2 * (n : Int)) = 2) : Cur cs N st (vk n k i) x := by
  have hlen : (l3.take k).length = k := by rw [List.length_take]; omega
  by_cases hik : i < k
  · have e : vk n k i = 2 * n + 2 + 2 * i := if_pos hik
    rw [e]
    rw [List.getElem?_append_left (by omega), List.getElem?_take, if_pos hik] at hx
    obtain ⟨h1, h2⟩ := h i _ hik hx
    exact Cur.mk _ _ _ (2 * n + 1 + 2 * i) (by omega) h2 (by unfold I64; omega) (by rw [if_pos (.inr hst)]; omega) (by omega) h1
  · have e : vk n k i = 2 * i + 1 := if_neg hik
    rw [e]
    rw [List.getElem?_append_right (by omega), hlen, List.getElem?_drop, show k + (i - k) = i by omega] at hx
    exact First.cur hF hi hx (by omega)
theorem take_drop_set {l l3 : List Int} {k : Nat} {x : Int} (hx : l3[k]? = some x) (hk : k < l.length) : ((l3.take k ++ l.drop k).map (Value.int .i64)).set k (.int .i64 x) = (l3.take (k + 1) ++ l.drop (k + 1)).map (Value.int .i64) := by
  have hlen : (l3.take k).length = k := by rw [List.length_take]; have := (List.getElem?_eq_some_iff.1 hx).1; omega
  rw [List.map_append, List.set_append_right _ _ (by rw [List.length_map]; omega), List.length_map, hlen, Nat.sub_self, List.drop_eq_getElem_cons hk, List.take_add_one, hx]
  simp only [List.map_cons, List.set_cons_zero, List.map_append, Option.toList, List.append_assoc, List.cons_append, List.nil_append]
theorem ownsRow_blk {w : World} {E : TypeId} {size g n cap : Nat} {xs : List Value} (h : w.ownsRow 0 E size (.slice (some ⟨g, 0, none⟩) n cap) n xs) : ∃ cur, Blk w g E cur := by
  obtain ⟨-, h | ⟨q', cap', cur, h1, -, h3, -⟩⟩ := h
  · cases h.1
  · injection h1 with h1 _ _
    obtain rfl : g = q' := by injection h1 with h1; injection h1
    exact ⟨cur, h3⟩
theorem sys_turn_yes {B r N nd : Nat} {K : KD} {cs : List Value} {v : Nat → Nat} {M : Int → Option Nat} {q : Int → Nat} {st : Int → Int} (w : World) (h : Sys w B K r N cs v nd M q st) (id to : Int) (d : Nat) (hi : I64 id) (hM : M id = some d) (h1 : st id = 1) (h2 : to = 2 ∨ to = 3) :
    Calls Try.prog 15 #[.pointer (some ⟨K.t, 0, none⟩), .int .i64 id, .int .i64 to] w
      fun e w' => e = .returned (.bool true) ∧ Sys w' B K r N cs v nd M q (updz st id to) ∧ Mod (Wd K M q) w w' := by
  have := sys_turn w h id to d hi hM
  rwa [if_pos ⟨h1, h2⟩, decide_eq_true (⟨h1, h2⟩ : st id = 1 ∧ (to = 2 ∨ to = 3))] at this
theorem sys_turn_no {B r N nd : Nat} {K : KD} {cs : List Value} {v : Nat → Nat} {M : Int → Option Nat} {q : Int → Nat} {st : Int → Int} (w : World) (h : Sys w B K r N cs v nd M q st) (id to : Int) (d : Nat) (hi : I64 id) (hM : M id = some d) (h1 : ¬ st id = 1) :
    Calls Try.prog 15 #[.pointer (some ⟨K.t, 0, none⟩), .int .i64 id, .int .i64 to] w
      fun e w' => e = .returned (.bool false) ∧ Sys w' B K r N cs v nd M q st ∧ Mod (Wd K M q) w w' := by
  have hup : (updz st id (st id)) = st := by funext j; by_cases e : j = id <;> simp [updz, e]
  have := sys_turn w h id to d hi hM
  rwa [if_neg (fun e => h1 e.1), decide_eq_false (fun e => h1 e.1), hup] at this
theorem sys_load_at {B r N nd : Nat} {K : KD} {cs : List Value} {v : Nat → Nat} {M : Int → Option Nat} {q : Int → Nat} {st : Int → Int} (w : World) (h : Sys w B K r N cs v nd M q st) (ix x : Int) (i : Nat) (hix : ix = i) (hi : i < K.k) (hx : (v i : Int) = x) :
    Calls Try.prog 30 #[.pointer (some ⟨K.c, 0, none⟩), .int .i64 ix] w fun e w' => e = .returned (.tuple #[.int .i64 x, .int .i64 0]) ∧ Sys w' B K r N cs v nd M q st ∧ Mod (Wd K M q) w w' := by
  subst hx
  exact sys_load w h ix i hix hi

set_option maxRecDepth 100000 in
set_option maxHeartbeats 8000000 in
theorem law_cellsAtOnce (A : Option Addr) (n c : Nat) (l : List Int) (A3 : Option Addr) (n3 c3 : Nat) (l3 : List Int) (commits : Bool) (w : World) (hl : l.length = n) (hr : Reads w w.heap.size 1 A n (l.map (Value.int .i64))) (hl3 : l3.length = n3) (hr3 : Reads w w.heap.size 1 A3 n3 (l3.map (Value.int .i64))) :
    Calls Try.prog 9 #[.slice A n c, .slice A3 n3 c3, .bool commits] w
     fun en w' => en = .returned (.bool true) ∧ Mod nowhere w w' := by
  by_cases g0 : n < 1 ∨ 8 < n ∨ 8 < n3
  · go_enter Try.func9, Try.ntmps9
    go_wp2_with fail
    (with_reducible refine (alive4_calls _).mono ?_)
    rintro e w1 ⟨rfl, hbw1⟩
    have hzw1 := hbw1.size
    (try simp at hzw1)
    skip
    skip
    go_wp2
    all_goals first | (exfalso; omega) | skip
    all_goals go_ret
    all_goals exact ⟨rfl, (by repeat (first | with_reducible exact Mod.refl _ _ | with_reducible assumption | with_reducible refine Mod.alloc ?_ _ | with_reducible refine Mod.drew ?_ | with_reducible refine Mod.drewN ?_ _ | with_reducible refine Mod.setCell ?_ (by first | exact .inl rfl | (left; (try unfold from_); show _ ≤ _; first | omega | (simp; done) | (simp; omega)) | (right; first | omega | (simp; done) | (simp; omega))) _ | with_reducible refine Mod.call0 ?_ (by with_reducible assumption) | with_reducible refine Mod.call ?_ (by with_reducible assumption) (by first | (rintro _ rfl; first | exact .inl rfl | (right; (first | omega | (simp; done) | (simp; omega)))) | (rintro _ (rfl | rfl) <;> (right; (first | omega | (simp; done) | (simp; omega)))))))⟩
  have g1 : 1 ≤ n := by omega
  have g2 : n ≤ 8 := by omega
  have g3 : n3 ≤ 8 := by omega
  have HR := hide hr
  have HL := hide hl
  have HR3 := hide hr3
  have HL3 := hide hl3
  clear hr hl hr3 hl3 g0
  have z1 : decide (n < 1) = false := by simp; omega
  have z2 : decide (8 < n) = false := by simp; omega
  have z3 : decide (8 < n3) = false := by simp; omega
  obtain ⟨b, o, rfl, hbl, hcell⟩ := HR.out.form (by omega) (by omega)
  have HC := hide hcell
  clear hcell
  go_enter Try.func9, Try.ntmps9
  go_wp2_with fail
  (with_reducible refine (alive4_calls _).mono ?_)
  rintro e w0 ⟨rfl, hbw0⟩
  have hzw0 := hbw0.size
  (try simp at hzw0)
  skip
  skip
  have y0 : Mod nowhere w w0 := (by repeat (first | with_reducible exact Mod.refl _ _ | with_reducible assumption | with_reducible refine Mod.alloc ?_ _ | with_reducible refine Mod.drew ?_ | with_reducible refine Mod.drewN ?_ _ | with_reducible refine Mod.setCell ?_ (by first | exact .inl rfl | (left; (try unfold from_); show _ ≤ _; first | omega | (simp; done) | (simp; omega)) | (right; first | omega | (simp; done) | (simp; omega))) _ | with_reducible refine Mod.call0 ?_ (by with_reducible assumption) | with_reducible refine Mod.call ?_ (by with_reducible assumption) (by first | (rintro _ rfl; first | exact .inl rfl | (right; (first | omega | (simp; done) | (simp; omega)))) | (rintro _ (rfl | rfl) <;> (right; (first | omega | (simp; done) | (simp; omega)))))))
  go_wp2_with fail
  (with_reducible refine (made4_calls 64 l b o c n _ HL.out g1 g2 (by omega) (by omega) (by have := y0.size; omega) (fun k x hk => (y0.cell (o + k) hbl id).trans (HC.out k (.int .i64 x) (by simp [hk])))).mono ?_)
  rintro e w1 ⟨K, r, cs, rfl, hk, hmo, hS1, hFi, hm1⟩
  have y1 : Mod nowhere w w1 := (by repeat (first | with_reducible exact Mod.refl _ _ | with_reducible assumption | with_reducible refine Mod.alloc ?_ _ | with_reducible refine Mod.drew ?_ | with_reducible refine Mod.drewN ?_ _ | with_reducible refine Mod.setCell ?_ (by first | exact .inl rfl | (left; (try unfold from_); show _ ≤ _; first | omega | (simp; done) | (simp; omega)) | (right; first | omega | (simp; done) | (simp; omega))) _ | with_reducible refine Mod.call0 ?_ (by with_reducible assumption) | with_reducible refine Mod.call ?_ (by with_reducible assumption) (by first | (rintro _ rfl; first | exact .inl rfl | (right; (first | omega | (simp; done) | (simp; omega)))) | (rintro _ (rfl | rfl) <;> (right; (first | omega | (simp; done) | (simp; omega)))))))
  replace hS1 := hS1.mono y0.size
  have F1 := hide hFi
  clear hFi hm1
  go_wp2_with fail
  (with_reducible refine (sys_beg _ hS1 y1.size 0 0 0 0 0 (by omega) (by decide) (by decide) (by decide) (by decide) (by decide)).mono ?_)
  rintro e w2 ⟨r2, d, x2, rfl, hr2, hS2, hm2⟩
  have y2 : Mod nowhere w w2 := y1.call hm2 fun i hi => .inr (hS1.ge hi)
  have F2 := hide (F1.out.more (cs' := [.int .i64 3, .int .i64 0, .int .i64 0, .int .i64 0, .int .i64 0, .int .i64 0, .int .i64 0, .int .i64 0, .int .i64 0]))
  have hMd : updz (fun _ => (none : Option Nat)) ((2 * n : Nat) : Int) (some d) ((2 * n : Nat) : Int) = some d := updz_same _ _ _
  have hst : updz (fun _ => (0 : Int)) ((2 * n : Nat) : Int) 1 ((2 * n : Nat) : Int) = 1 := updz_same _ _ _
  generalize updz (fun _ => (none : Option Nat)) ((2 * n : Nat) : Int) (some d) = M at hS2 hMd
  generalize updz (fun _ => 0) ((2 * n : Nat) : Int) x2 = q at hS2
  generalize updz (fun _ => (0 : Int)) ((2 * n : Nat) : Int) 1 = st at hS2 hst
  generalize cs ++ [.int .i64 3, .int .i64 0, .int .i64 0, .int .i64 0, .int .i64 0, .int .i64 0, .int .i64 0, .int .i64 0, .int .i64 0] = cs2 at hS2 F2
  have HST := hide hst
  have HST2 := hide (show st (2 * (n : Int)) = 1 from by rw [show (2 * (n : Int)) = ((2 * n : Nat) : Int) by omega]; exact hst)
  have HMD := hide hMd
  clear hst hMd hS1 hm2
  obtain ⟨i0, hi, hz0, hz1, hz2⟩ := info_parts ainfo_i64
  go_wp2_with (at_builtin; (refine wpList_append_lies _ rfl _ _ _ rfl 0 2 i0 (.int .i64 0) 1 8 Try.underlying53 hi hz0 hz1 hz2 (by rfl) (by omega) (.slice (some ⟨w2.heap.size, 0, none⟩) 0 0) 0 [] (by rfl) (emptyRow _ _) ⟨b, o, none⟩ n c (l.map (Value.int .i64)) (by rfl) (by rw [List.length_map, HL.out]; omega) (fun j u hu => by rw [Addr.add_lit]; exact ((y2.alloc _).cell (o + j) hbl id).trans (HC.out j u hu)) (by intro u hu; simp only [List.mem_map] at hu; obtain ⟨x, -, rfl⟩ := hu; rfl) (by omega) (by unfold maxLen; omega) (by omega) (Nat.zero_le _) (w2.heap.size + 1) (by simp) ?_); rintro q1 cap1 w3 hown hgrow hat hlt)
  have hq1 : w2.heap.size ≤ q1 := by rcases hat with hh | hh <;> first | omega | (simp [Value.ownBlock] at hh; omega)
  simp only [Nat.zero_add, List.nil_append] at hown
  have m3 : Mod (· = w2.heap.size) (w2.alloc (.cells #[] 2)) w3 := (Mod.of_grown hgrow).mono fun b hb => by simpa [Value.ownBlock] using hb
  have hS3 := (hS2.keep0 ((Mod.refl _ w2).alloc (.cells #[] 2))).keep m3 (fun b hb e => by have := hS2.lt hb; omega)
  have y3 : Mod nowhere w w3 := (y2.alloc _).call m3 (fun i hi => .inr (by have := y2.size; omega))
  have hq0 : w.heap.size ≤ q1 := by have := y2.size; omega
  clear hgrow hat m3 hS2
  go_wp2_with fail
  go_loopw [14, 15, 16, 17, 18, 19, 20, 21, 22] (fun s14 _ _ _ _ _ _ _ _ wx => ∃ (k r N : Nat) (cs : List Value), s14 = .int .i64 k ∧ k ≤ n3 ∧ k ≤ n ∧ N = 2 * n + 1 + 2 * k ∧ Sys wx w.heap.size K r N cs (vk n k) (0 + 1) M q st ∧ First l n cs ∧ AtO l3 n k cs ∧ wx.ownsRow 0 2 1 (.slice (some ⟨q1, 0, none⟩) n cap1) n ((l3.take k ++ l.drop k).map (Value.int .i64)) ∧ Mod nowhere w wx)
    (fun s14 _ _ _ _ _ _ _ _ _ => (300 - (intOf s14)).toNat)
  case atStart => exact ⟨0, r2, _, _, rfl, Nat.zero_le _, Nat.zero_le _, rfl, by rw [vk_zero]; exact hS3, F2.out, fun i x hi => absurd hi (by omega), by simpa using hown, y3⟩
  case round =>
    obtain ⟨k, r, N, cs, rfl, hk3, hkn, hN, hS, hF, hA, ho, hmr⟩ := hrel
    have hsz := hmr.size
    by_cases hlt : k < n3 ∧ k < n
    · obtain ⟨b3, o3, rfl, hbl3, hcell3⟩ := HR3.out.form (by omega) (by omega)
      obtain ⟨x3, hx3⟩ : ∃ x3, l3[k]? = some x3 := ⟨_, List.getElem?_eq_getElem (show k < l3.length by have := HL3.out; omega)⟩
      obtain ⟨xk, hxk⟩ : ∃ xk, l[k]? = some xk := ⟨_, List.getElem?_eq_getElem (show k < l.length by have := HL.out; omega)⟩
      have hcd := hide (fun W (hW : Mod nowhere w W) => (hW.cell (o3 + k) hbl3 id).trans (hcell3 k (.int .i64 x3) (by simp [hx3])))
      obtain ⟨cur, hcur⟩ := ownsRow_blk ho
      have hQn : ¬ In K r M q q1 := hS.notIn hcur (by decide) (by decide) (by decide) (by decide) (by decide) (by decide) (by decide)
      have lQ := hcur.lt
      have f1 := First.loc hF hlt.2 hxk
      have f2 := hide (First.ver hF hlt.2 hxk)
      have HF := hide hF
      have HA := hide hA
      have HX3 := hide hx3
      have HN := hide hN
      have hNb : N < 62 := by omega
      clear hx3 hxk hcell3 hF hA hcur hN
      go_wp2_with fail
      (with_reducible refine (sys_load_at _ hS (k : Int) (2 * (k : Int) + 1) k rfl (by omega) (by rw [vk_at]; omega)).mono ?_)
      rintro e w4 ⟨rfl, hS4, hm4⟩
      have y4 : Mod nowhere w w4 := hmr.call hm4 fun i hi => .inr (hS.ge hi.in_)
      have ho4 := owns_keep ho hm4 (fun hh => hQn hh.in_)
      have hz4 := hm4.size
      go_wp2_with fail
      (with_reducible refine (sys_loc _ hS4 (2 * (k : Int) + 1) (2 * k + 1) (-1) (2 * (k : Int)) (2 * (k : Int)) (by omega) (by have := HN.out; omega) f1).mono ?_)
      rintro e w5 ⟨rfl, hm5⟩
      have y5 : Mod nowhere w w5 := y4.call0 hm5
      have hS5 := hS4.keep0 hm5
      have ho5 := owns_keep0 ho4 hm5
      have hz5 := hm5.size
      have c5 := hcd.out _ (y5.alloc (.cells #[.int .i64 2, .int .i64 0, .int .i64 (-1), .int .i64 (2 * (k : Int)), .int .i64 (2 * (k : Int)), .int .i64 0, .int .i64 0, .int .i64 0, .int .i64 0] 40))
      go_wp2_with fail
      obtain ⟨w6, hw6⟩ : ∃ w6, w6 = w5.alloc (.cells #[.int .i64 2, .int .i64 0, .int .i64 (-1), .int .i64 (2 * (k : Int)), .int .i64 (2 * (k : Int)), .int .i64 0, .int .i64 0, .int .i64 0, .int .i64 0] 40) := ⟨_, rfl⟩
      have hm6 : Mod nowhere w5 w6 := by rw [hw6]; exact (Mod.refl _ _).alloc _
      have LB6 : Blk w6 w5.heap.size 40 #[.int .i64 2, .int .i64 0, .int .i64 (-1), .int .i64 (2 * (k : Int)), .int .i64 (2 * (k : Int)), .int .i64 0, .int .i64 0, .int .i64 0, .int .i64 0] := by rw [hw6]; exact Blk.new _ _ _
      rw [← hw6]
      clear hw6 c5
      have y6 : Mod nowhere w w6 := y5.call0 hm6
      have hS6 := hS5.keep0 hm6
      have ho6 := owns_keep0 ho5 hm6
      have hLn6 : ¬ In K r M q w5.heap.size := fun hh => by have := hS5.lt hh; omega
      (with_reducible refine (sys_ver _ hS6 y6.size x3 (by omega)).mono ?_)
      rintro e w7 ⟨r7, rfl, hS7, hr7, hm7⟩
      have y7 : Mod nowhere w w7 := y6.call hm7 fun i hi => .inr (hS6.ge hi)
      have LB7 := Blk.keep LB6 hm7 hLn6
      have ho7 := owns_keep ho6 hm7 hQn
      have hQn7 : ¬ In K r7 M q q1 := In.newr hQn (by have := hm6.size; omega) hr7
      have v7 := hide (Rec9.new 1 x3 0 0 0 0 0 0 0 hS6.cf.arn.len)
      have F7 := hide (HF.out.more (cs' := [.int .i64 1, .int .i64 x3, .int .i64 0, .int .i64 0, .int .i64 0, .int .i64 0, .int .i64 0, .int .i64 0, .int .i64 0]))
      have A7 := hide (HA.out.more (cs' := [.int .i64 1, .int .i64 x3, .int .i64 0, .int .i64 0, .int .i64 0, .int .i64 0, .int .i64 0, .int .i64 0, .int .i64 0]))
      have f7 := f2.out.more (cs' := [.int .i64 1, .int .i64 x3, .int .i64 0, .int .i64 0, .int .i64 0, .int .i64 0, .int .i64 0, .int .i64 0, .int .i64 0])
      generalize cs ++ [.int .i64 1, .int .i64 x3, .int .i64 0, .int .i64 0, .int .i64 0, .int .i64 0, .int .i64 0, .int .i64 0, .int .i64 0] = cs7 at hS7 v7 F7 A7 f7
      have c7 := LB7.cell
      have l7 := LB7.lt
      have hz7 := hm7.size
      clear f1 f2 LB6 hS4 hS5 hS6 hS ho ho4 ho5 ho6 hm4 hm5 hm6
      go_wp2_with fail
      (with_reducible refine (sys_bld _ hS7 y7.size (2 * (n : Int)) (2 * (k : Int)) (N : Int) xk x3 (2 * k) N (by omega) rfl (by have := HN.out; omega) (by omega) f7 v7.out (by omega) (by omega)).mono ?_)
      rintro e w8 ⟨r8, rfl, hS8, hr8, hm8⟩
      have y8 : Mod nowhere w w8 := y7.call hm8 fun i hi => .inr (hS7.ge hi)
      have ho8 := owns_keep ho7 hm8 hQn7
      have hQn8 : ¬ In K r8 M q q1 := In.newr hQn7 (by omega) hr8
      have v8 := hide (Rec9.new 2 0 (2 * (n : Int)) (2 * (k : Int)) (N : Int) 0 0 0 0 hS7.cf.arn.len)
      have F8 := hide (F7.out.more (cs' := [.int .i64 2, .int .i64 0, .int .i64 (2 * (n : Int)), .int .i64 (2 * (k : Int)), .int .i64 (N : Int), .int .i64 0, .int .i64 0, .int .i64 0, .int .i64 0]))
      have A8 := hide (A7.out.more (cs' := [.int .i64 2, .int .i64 0, .int .i64 (2 * (n : Int)), .int .i64 (2 * (k : Int)), .int .i64 (N : Int), .int .i64 0, .int .i64 0, .int .i64 0, .int .i64 0]))
      have w78 := hide (v7.out.more (cs' := [.int .i64 2, .int .i64 0, .int .i64 (2 * (n : Int)), .int .i64 (2 * (k : Int)), .int .i64 (N : Int), .int .i64 0, .int .i64 0, .int .i64 0, .int .i64 0]))
      generalize cs7 ++ [.int .i64 2, .int .i64 0, .int .i64 (2 * (n : Int)), .int .i64 (2 * (k : Int)), .int .i64 (N : Int), .int .i64 0, .int .i64 0, .int .i64 0, .int .i64 0] = cs8 at hS8 v8 F8 A8 w78
      have A9 := hide (A8.out.snoc HX3.out (by have := w78.out; rwa [HN.out] at this) (by
        have := v8.out
        rw [show N + 1 = 2 * n + 2 + 2 * k by have := HN.out; omega, show (N : Int) = 2 * (n : Int) + 1 + 2 * (k : Int) by have := HN.out; omega] at this
        exact this))
      clear c7 l7 LB7 hS7 ho7 hm7 hm8 hLn6 v8 w78 A8 f7 v7
      have hz8 := hmr.size
      go_wp2_with fail
      (with_reducible refine (sys_swap_yes _ hS8 (k : Int) (2 * (k : Int) + 1) ((N : Int) + 1) k (2 * n + 2 + 2 * k) rfl (by omega) (by have := HN.out; omega) (by rw [vk_at]; omega)).mono ?_)
      rintro e w9 ⟨rfl, hS9, hm9⟩
      have y9 : Mod nowhere w w9 := y8.call hm9 fun i hi => .inr (hS8.ge hi.in_)
      have ho9 := owns_keep ho8 hm9 (fun hh => hQn8 hh.in_)
      rw [vk_succ] at hS9
      clear hS8 ho8 hm9
      go_wp2_with fail
      (with_reducible refine (sys_all_n _ hS9 l n hk (HL.out) (fun i x hx => A9.out.cur F8.out (show i < n by have := (List.getElem?_eq_some_iff.1 hx).1; have := HL.out; omega) hx (by have := HL3.out; omega) g2 (by have := HN.out; omega) (by rw [HST2.out]; decide))).mono ?_)
      rintro e w10 ⟨z9, rfl, hz9, hS10, hm10⟩
      have y10 : Mod nowhere w w10 := y9.call hm10 fun i hi => .inr (hS9.ge hi.in_)
      obtain ⟨A10, c10, rfl, hrd10⟩ := hz9.reads
      go_wp2_with fail
      (with_reducible refine (vals_same l _ _ n _ _ _ _ _ (HL.out) (by omega) hrd10 (HR.out.keepMod (Nat.le_refl _) y10) (Nat.le_refl _) y10.size).mono ?_)
      rintro e w11 ⟨rfl, hm11⟩
      have y11 : Mod nowhere w w11 := y10.call0 hm11
      have hS11 := hS10.keep0 hm11
      have ho10 := owns_keep ho9 hm10 (fun hh => hQn8 hh.in_)
      have ho11 := owns_keep0 ho10 hm11
      have c11 := hcd.out _ y11
      have e11 := ho11.frozenAt k
      have lq11 := (ownsRow_blk ho11).elim fun _ hb => hb.lt
      clear ho9 ho10 hS9 hS10
      obtain ⟨u11, hu11⟩ : ∃ u, w11.cell? ⟨q1, k, none⟩ = some u := ⟨_, (ho11.cellAt k (by omega)).trans (List.getElem?_eq_getElem (by rw [ho11.1]; omega))⟩
      go_wp2
      have m12 : Mod (· = q1) w11 (w11.setCell ⟨q1, k, none⟩ (.int .i64 x3)) := Mod.setCell (S := (· = q1)) (p := ⟨q1, k, none⟩) (Mod.refl _ _) (.inl rfl) _
      have ho12 := (ho11.stored k (.int .i64 x3)).1
      rw [take_drop_set HX3.out (by have := HL.out; omega)] at ho12
      exact ⟨⟨k + 1, r8, N + 1 + 1, cs8, by go_num, by omega, by omega, by have := HN.out; omega, hS11.keep m12 (fun b hb e => hQn8 (e ▸ hb)), F8.out, A9.out, ho12, y11.setCell (.inr hq0) _⟩, by simp [intOf] <;> omega⟩
    · obtain ⟨cur, hcur⟩ := ownsRow_blk ho
      have hQn : ¬ In K r M q q1 := hS.notIn hcur (by decide) (by decide) (by decide) (by decide) (by decide) (by decide) (by decide)
      have HW : (l3.take k ++ l.drop k).length = n := by rw [List.length_append, List.length_take, List.length_drop, HL.out, HL3.out]; omega
      have HW' := hide HW
      have HF := hide hF
      have HA := hide hA
      have CA := hide (fun (st : Int → Int) (hst : st (2 * (n : Int)) ≠ 2) (i : Nat) (x : Int) (hx : l[i]? = some x) => HA.out.cur (st := st) HF.out (show i < n by have := (List.getElem?_eq_some_iff.1 hx).1; have := HL.out; omega) hx (by have := HL3.out; omega) g2 hN hst)
      have CD := hide (fun (st : Int → Int) (hst : st (2 * (n : Int)) = 2) (i : Nat) (x : Int) (hx : (l3.take k ++ l.drop k)[i]? = some x) => HA.out.done (st := st) HF.out (show i < n by have := (List.getElem?_eq_some_iff.1 hx).1; omega) hx (by have := HL3.out; omega) g2 hN hst)
      generalize l3.take k ++ l.drop k = lw at ho HW' CD
      clear HW hcur HF HA hF hA
      have hS20 := hS
      have y20 := hmr
      have ho20 := ho
      have hMd2 : M (2 * (n : Int)) = some d := by rw [show (2 * (n : Int)) = ((2 * n : Nat) : Int) by omega]; exact HMD.out
      have i64n : I64 (2 * (n : Int)) := by unfold I64; omega
      have HM2 := hide hMd2
      clear hMd2 hS ho hN
      have hcase : n3 = k ∨ (k < n3 ∧ n = k) := by omega
      rcases hcase with rfl | ⟨h3, rfl⟩
      all_goals
        cases commits
        · go_wp2_with fail
          (with_reducible refine (sys_turn_yes _ hS20 _ 3 d i64n HM2.out HST2.out (.inr rfl)).mono ?_)
          rintro e w21 ⟨rfl, hS21, hm21⟩
          have y21 : Mod nowhere w w21 := y20.call hm21 fun i hi => .inr (hS20.ge hi.in_)
          go_wp2_with fail
          (with_reducible refine (sys_all_n _ hS21 l n hk (HL.out) (CA.out _ (by rw [updz_same]; decide))).mono ?_)
          rintro e w22 ⟨z21, rfl, hz21, hS22, hm22⟩
          have y22 : Mod nowhere w w22 := y21.call hm22 fun i hi => .inr (hS21.ge hi.in_)
          obtain ⟨A22, c22, rfl, hrd22⟩ := hz21.reads
          go_wp2_with fail
          (with_reducible refine (vals_same l _ _ n _ _ _ _ _ (HL.out) (by omega) hrd22 (HR.out.keepMod (Nat.le_refl _) y22) (Nat.le_refl _) y22.size).mono ?_)
          rintro e w23 ⟨rfl, hm23⟩
          have y23 : Mod nowhere w w23 := y22.call0 hm23
          have hS23 := hS22.keep0 hm23
          go_wp2_with fail
          (with_reducible refine (sys_turn_no _ hS23 _ 2 d i64n HM2.out (by rw [updz_same]; decide)).mono ?_)
          rintro e w24 ⟨rfl, hS24, hm24⟩
          have y24 : Mod nowhere w w24 := y23.call hm24 fun i hi => .inr (hS23.ge hi.in_)
          go_wp2_with fail
          (with_reducible refine (sys_all_n _ hS24 l n hk (HL.out) (CA.out _ (by rw [updz_same]; decide))).mono ?_)
          rintro e w25 ⟨z24, rfl, hz24, hS25, hm25⟩
          have y25 : Mod nowhere w w25 := y24.call hm25 fun i hi => .inr (hS24.ge hi.in_)
          obtain ⟨A25, c25, rfl, hrd25⟩ := hz24.reads
          go_wp2_with fail
          (with_reducible refine (vals_same l _ _ n _ _ _ _ _ (HL.out) (by omega) hrd25 (HR.out.keepMod (Nat.le_refl _) y25) (Nat.le_refl _) y25.size).mono ?_)
          rintro e w26 ⟨rfl, hm26⟩
          have y26 : Mod nowhere w w26 := y25.call0 hm26
          have hS26 := hS25.keep0 hm26
          go_wp2
          go_ret
          exact ⟨rfl, y26⟩
        · go_wp2_with fail
          (with_reducible refine (sys_turn_yes _ hS20 _ 2 d i64n HM2.out HST2.out (.inl rfl)).mono ?_)
          rintro e w21 ⟨rfl, hS21, hm21⟩
          have y21 : Mod nowhere w w21 := y20.call hm21 fun i hi => .inr (hS20.ge hi.in_)
          have ho21 := owns_keep ho20 hm21 (fun hh => hQn hh.in_)
          go_wp2_with fail
          (with_reducible refine (sys_all_n _ hS21 lw n hk (HW'.out) (CD.out _ (by rw [updz_same]))).mono ?_)
          rintro e w22 ⟨z21, rfl, hz21, hS22, hm22⟩
          have y22 : Mod nowhere w w22 := y21.call hm22 fun i hi => .inr (hS21.ge hi.in_)
          have ho22 := owns_keep ho21 hm22 (fun hh => hQn hh.in_)
          obtain ⟨A22, c22, rfl, hrd22⟩ := hz21.reads
          go_wp2_with fail
          (with_reducible refine (vals_same lw _ _ n _ _ _ _ _ (HW'.out) (by omega) hrd22 (Reads.of_own ho22) (Nat.le_refl _) (Nat.le_refl _)).mono ?_)
          rintro e w23 ⟨rfl, hm23⟩
          have y23 : Mod nowhere w w23 := y22.call0 hm23
          have hS23 := hS22.keep0 hm23
          have ho23 := owns_keep0 ho22 hm23
          go_wp2_with fail
          (with_reducible refine (sys_turn_no _ hS23 _ 2 d i64n HM2.out (by rw [updz_same]; decide)).mono ?_)
          rintro e w24 ⟨rfl, hS24, hm24⟩
          have y24 : Mod nowhere w w24 := y23.call hm24 fun i hi => .inr (hS23.ge hi.in_)
          have ho24 := owns_keep ho23 hm24 (fun hh => hQn hh.in_)
          go_wp2_with fail
          (with_reducible refine (sys_all_n _ hS24 lw n hk (HW'.out) (CD.out _ (by rw [updz_same]))).mono ?_)
          rintro e w25 ⟨z24, rfl, hz24, hS25, hm25⟩
          have y25 : Mod nowhere w w25 := y24.call hm25 fun i hi => .inr (hS24.ge hi.in_)
          have ho25 := owns_keep ho24 hm25 (fun hh => hQn hh.in_)
          obtain ⟨A25, c25, rfl, hrd25⟩ := hz24.reads
          go_wp2_with fail
          (with_reducible refine (vals_same lw _ _ n _ _ _ _ _ (HW'.out) (by omega) hrd25 (Reads.of_own ho25) (Nat.le_refl _) (Nat.le_refl _)).mono ?_)
          rintro e w26 ⟨rfl, hm26⟩
          have y26 : Mod nowhere w w26 := y25.call0 hm26
          have hS26 := hS25.keep0 hm26
          go_wp2
          go_ret
          exact ⟨rfl, y26⟩
end Go.Proofs.Ytelammmgcfmlbaa
