/- Longest, Fair; the document's example of layer 22. -/
import Derived.Test.YtffeidjalphemaaMake
namespace Go.Proofs.Ytffeidjalphemaa
open Go.RowKit

/-- How long t has waited behind some picks, and the longest that it has. -/
def wtS (t : Int) (s : Nat × Nat) (p : Int) : Nat × Nat := (if p = t then 0 else s.1 + 1, max s.2 (if p = t then 0 else s.1 + 1))
def wtL (t : Int) (l : List Int) : Nat × Nat := l.foldl (wtS t) (0, 0)
theorem wtL_snoc (t : Int) (l : List Int) (p : Int) : wtL t (l ++ [p]) = wtS t (wtL t l) p := by unfold wtL; rw [List.foldl_append]; rfl
theorem list_snoc_ind {α : Type} (P : List α → Prop) (h0 : P []) (hs : ∀ l x, P l → P (l ++ [x])) (l : List α) : P l := by
  have key : ∀ k, P (l.take k) := by
    intro k
    induction k with
    | zero => simpa using h0
    | succ k ih =>
      by_cases hk : k < l.length
      · have := hs _ l[k] ih
        rwa [show l.take k ++ [l[k]] = l.take (k + 1) by rw [List.take_add_one, List.getElem?_eq_getElem hk]; rfl] at this
      · rw [List.take_of_length_le (by omega)] at ih ⊢; exact ih
  have := key l.length
  rwa [List.take_of_length_le (Nat.le_refl _)] at this
theorem wtL_le (t : Int) (l : List Int) : (wtL t l).1 ≤ l.length ∧ (wtL t l).2 ≤ l.length := by
  refine list_snoc_ind (fun l => (wtL t l).1 ≤ l.length ∧ (wtL t l).2 ≤ l.length) ⟨Nat.le_refl _, Nat.le_refl _⟩ (fun l x ih => ?_) l
  rw [wtL_snoc]
  simp only [wtS, List.length_append, List.length_cons, List.length_nil]
  split <;> omega
def longM (l : List Int) : Nat → Nat
  | 0 => 0
  | k + 1 => max (longM l k) (wtL (k : Int) l).2
theorem longM_le (l : List Int) (k : Nat) : longM l k ≤ l.length := by
  induction k with
  | zero => exact Nat.zero_le _
  | succ k ih =>
    have := wtL_le (k : Int) l
    unfold longM; omega
theorem run_maxN (ts : Array TypeId) (t : TypeId) (a b : Nat) (w : World) : (Builtin.max_ ts t #[.int .i64 a, .int .i64 b]).run Try.prog w = .ok (.int .i64 ((max a b : Nat) : Int)) w := by
  rw [run_max2]
  congr 2
  split <;> omega

set_option maxRecDepth 100000 in
set_option maxHeartbeats 4000000 in
theorem longest_calls (A : Option Addr) (m c B n : Nat) (l : List Int) (w : World) (hr : Reads w B 1 A m (l.map (Value.int .i64))) (hB : B ≤ w.heap.size) (hl : l.length = m) (hm : m ≤ 1000) (h1 : 1 ≤ n) (h6 : n ≤ 6) :
    Calls Try.prog 10 #[.slice A m c, .int .i64 n] w fun e w' => e = .returned (.int .i64 (longM l n)) ∧ Mod nowhere w w' := by
  have HR := hide hr
  have HL := hide hl
  have hw : decide (1 ≤ (n : Int) ∧ (n : Int) ≤ 6) = true := by simp; omega
  clear hr hl
  go_enter Try.func10, Try.ntmps10
  go_wp2_with fail
  (with_reducible refine (within_calls (n : Int) _).mono ?_)
  rintro e w5 ⟨rfl, hm5⟩
  rw [hw]
  go_wp2_with fail
  go_loopw [5, 6, 7, 9, 14, 19] (fun s5 _ _ _ s14 _ wx => ∃ (t : Nat), s14 = .int .i64 t ∧ t ≤ n ∧ s5 = .int .i64 (longM l t) ∧ Mod nowhere w wx)
    (fun _ _ _ _ s14 _ _ => (300 - (intOf s14)).toNat)
  case atStart => exact ⟨0, rfl, Nat.zero_le _, rfl, hm5⟩
  case round =>
    obtain ⟨t, rfl, ht, rfl, hmr⟩ := hrel
    by_cases hlt : t < n
    · have hb5 := longM_le l t
      rw [HL.out] at hb5
      obtain ⟨a5, ha5⟩ : ∃ a, a = longM l t := ⟨_, rfl⟩
      rw [← ha5] at hb5 ⊢
      have HA5 := hide ha5
      clear ha5
      go_wp2_with fail
      go_loopw [5, 7, 9, 19] (fun s5 s7 _ s19 wx => ∃ (i : Nat), s19 = .int .i64 i ∧ i ≤ m ∧ s7 = .int .i64 (wtL (t : Int) (l.take i)).1 ∧ s5 = .int .i64 ((max a5 (wtL (t : Int) (l.take i)).2 : Nat) : Int) ∧ Mod nowhere w wx)
        (fun _ _ _ s19 _ => (2000 - (intOf s19)).toNat)
      case atStart => exact ⟨0, rfl, Nat.zero_le _, rfl, by simp [wtL], hmr⟩
      case round =>
        clear hmr
        obtain ⟨i, rfl, hi, rfl, rfl, hmr⟩ := hrel
        by_cases him : i < m
        · obtain ⟨b, o, hAe, hb, hc⟩ := reads_cell HR.out hB (hmr.mono fun _ x => x.elim) him
          subst hAe
          obtain ⟨x, hx⟩ : ∃ x, l[i]? = some x := ⟨_, List.getElem?_eq_getElem (show i < l.length by have := HL.out; omega)⟩
          have htk : l.take (i + 1) = l.take i ++ [x] := by rw [List.take_add_one, hx]; rfl
          rw [show l.getD i 0 = x by rw [List.getD_eq_getElem?_getD, hx]; rfl] at hc
          have hle := wtL_le (t : Int) (l.take i)
          have hti : (l.take i).length = i := by rw [List.length_take]; have := HL.out; omega
          rw [hti] at hle
          have hw1 : wtL (t : Int) (l.take (i + 1)) = wtS (t : Int) (wtL (t : Int) (l.take i)) x := by rw [htk, wtL_snoc]
          have HW1 := hide hw1
          obtain ⟨⟨wa, wb⟩, hwab⟩ : ∃ s, s = wtL (t : Int) (l.take i) := ⟨_, rfl⟩
          rw [← hwab] at hle ⊢
          have HW := hide hwab
          simp only at hle ⊢
          have hbr : b < wr.heap.size := by have := hmr.size; omega
          clear hwab hw1 htk hx hti
          by_cases e : x = (t : Int)
          · subst e
            have hmx := fun ts ty W => run_maxN ts ty (max a5 wb) 0 W
            have hmxx : ∀ ts ty W, (Builtin.max_ ts ty #[.int .i64 ((max a5 wb : Nat) : Int), .int .i64 0]).run Try.prog W = .ok (.int .i64 ((max a5 wb : Nat) : Int)) W := fun ts ty W => by have := hmx ts ty W; rwa [Nat.max_zero] at this
            generalize hg : max a5 wb = mx at *
            clear hmx
            go_wp2
            refine ⟨⟨i + 1, by go_num, by omega, ?_, ?_, hmr⟩, by simp [intOf] <;> omega⟩
            · rw [HW1.out]; simp [wtS]
            · rw [HW1.out, ← HW.out]; simp [wtS, ← hg]
          · have hmx := fun ts ty W => run_maxN ts ty (max a5 wb) (wa + 1) W
            have hmxx : ∀ ts ty W, (Builtin.max_ ts ty #[.int .i64 ((max a5 wb : Nat) : Int), .int .i64 ((wa : Int) + 1)]).run Try.prog W = .ok (.int .i64 ((max (max a5 wb) (wa + 1) : Nat) : Int)) W := hmx
            have e' : (x == (t : Int)) = false := by simp [e]
            generalize hg : max a5 wb = mx at *
            generalize hg2 : max mx (wa + 1) = mx2 at hmxx
            clear hmx
            go_wp2
            refine ⟨⟨i + 1, by go_num, by omega, ?_, ?_, hmr⟩, by simp [intOf] <;> omega⟩
            · rw [HW1.out, ← HW.out]; simp [wtS, e]
            · rw [HW1.out, ← HW.out]; simp [wtS, e, ← hg2, ← hg, Nat.max_assoc]
        · obtain rfl : m = i := by omega
          have htk : l.take m = l := List.take_of_length_le (by rw [HL.out]; omega)
          rw [htk]
          have hlm : max a5 (wtL (t : Int) l).2 = longM l (t + 1) := by rw [HA5.out]; rfl
          obtain ⟨a6, ha6⟩ : ∃ a, a = longM l (t + 1) := ⟨_, rfl⟩
          rw [← ha6] at hlm
          rw [hlm]
          have HA6 := hide ha6
          clear hlm htk ha6
          go_wp2
          exact ⟨⟨t + 1, by go_num, by omega, by rw [HA6.out], hmr⟩, by simp [intOf] <;> omega⟩
    · obtain rfl : n = t := by omega
      go_wp2
      go_ret
      exact ⟨rfl, hmr⟩

theorem longest_bad (s : Value) (n : Int) (w : World) (h : ¬ (1 ≤ n ∧ n ≤ 6)) :
    Calls Try.prog 10 #[s, .int .i64 n] w fun e w' => e = .returned (.int .i64 0) ∧ Mod nowhere w w' := by
  have hw := decide_eq_false h
  clear h
  go_enter Try.func10, Try.ntmps10
  go_wp2_with fail
  (with_reducible refine (within_calls n _).mono ?_)
  rintro e w5 ⟨rfl, hm5⟩
  rw [hw]
  go_wp2
  go_ret
  exact ⟨rfl, hm5⟩
theorem fair_bad (s : Value) (n f : Int) (w : World) (h : ¬ (1 ≤ n ∧ n ≤ 6)) :
    Calls Try.prog 11 #[s, .int .i64 n, .int .i64 f] w fun e w' => e = .returned (.bool false) ∧ Mod nowhere w w' := by
  have hw := decide_eq_false h
  clear h
  go_enter Try.func11, Try.ntmps11
  go_wp2_with fail
  (with_reducible refine (within_calls n _).mono ?_)
  rintro e w5 ⟨rfl, hm5⟩
  rw [hw]
  go_wp2
  go_ret
  exact ⟨rfl, hm5⟩
set_option maxRecDepth 100000 in
set_option maxHeartbeats 4000000 in
theorem fair_calls (A : Option Addr) (m c B n : Nat) (l : List Int) (f : Int) (w : World) (hr : Reads w B 1 A m (l.map (Value.int .i64))) (hB : B ≤ w.heap.size) (hl : l.length = m) (hm : m ≤ 1000) (h1 : 1 ≤ n) (h6 : n ≤ 6) :
    Calls Try.prog 11 #[.slice A m c, .int .i64 n, .int .i64 f] w fun e w' => e = .returned (.bool (decide (1 ≤ f ∧ ((m : Int) < f ∨ (longM l n : Int) < f)))) ∧ Mod nowhere w w' := by
  have HR := hide hr
  have hw : decide (1 ≤ (n : Int) ∧ (n : Int) ≤ 6) = true := by simp; omega
  clear hr
  by_cases g1 : 1 ≤ f
  · by_cases g2 : (m : Int) < f
    · rw [decide_eq_true (show 1 ≤ f ∧ ((m : Int) < f ∨ (longM l n : Int) < f) from ⟨g1, .inl g2⟩)]
      go_enter Try.func11, Try.ntmps11
      go_wp2_with fail
      (with_reducible refine (within_calls (n : Int) _).mono ?_)
      rintro e w5 ⟨rfl, hm5⟩
      rw [hw]
      go_wp2
      go_ret
      exact ⟨rfl, hm5⟩
    · have e : decide (1 ≤ f ∧ ((m : Int) < f ∨ (longM l n : Int) < f)) = decide ((longM l n : Int) < f) := by simp [g1, g2]
      rw [e]
      clear e
      go_enter Try.func11, Try.ntmps11
      go_wp2_with fail
      (with_reducible refine (within_calls (n : Int) _).mono ?_)
      rintro e w5 ⟨rfl, hm5⟩
      rw [hw]
      go_wp2_with fail
      (with_reducible refine (longest_calls A m c B n l w5 (HR.out.keepMod hB hm5) (by have := hm5.size; omega) hl hm h1 h6).mono ?_)
      rintro e w6 ⟨rfl, hm6⟩
      go_wp2
      go_ret
      exact ⟨by simp; omega, hm5.call0 hm6⟩
  · rw [decide_eq_false (fun h => g1 h.1)]
    go_enter Try.func11, Try.ntmps11
    go_wp2_with fail
    (with_reducible refine (within_calls (n : Int) _).mono ?_)
    rintro e w5 ⟨rfl, hm5⟩
    rw [hw]
    go_wp2
    go_ret
    exact ⟨rfl, hm5⟩

theorem make_callsZ (A : Option Addr) (m c B n : Nat) (ws : List Int) (nx f : Int) (w : World) (hnx : nx = n) (hr : Reads w B 1 A m (ws.map (Value.int .i64))) (hB : B ≤ w.heap.size) (hl : ws.length = m) (hm : m ≤ 400) (h1 : 1 ≤ n) (h6 : n ≤ 6) (hf : (n : Int) ≤ f) (hfi : f ≤ 9223372036854775807) :
    Calls Try.prog 14 #[.slice A m c, .int .i64 nx, .int .i64 f] w fun e w' => ∃ z, e = .returned (.tuple #[z, .int .i64 0]) ∧ LocRow w' w.heap.size 3 1 z m ((stM f n ws).2.map (Value.int .i64)) ∧ Mod nowhere w w' := by
  subst hnx; exact make_calls A m c B n ws f w hr hB hl hm h1 h6 hf hfi
theorem fair_callsZ (A : Option Addr) (m c B n : Nat) (l : List Int) (nx f : Int) (w : World) (hnx : nx = n) (hr : Reads w B 1 A m (l.map (Value.int .i64))) (hB : B ≤ w.heap.size) (hl : l.length = m) (hm : m ≤ 1000) (h1 : 1 ≤ n) (h6 : n ≤ 6) :
    Calls Try.prog 11 #[.slice A m c, .int .i64 nx, .int .i64 f] w fun e w' => e = .returned (.bool (decide (1 ≤ f ∧ ((m : Int) < f ∨ (longM l n : Int) < f)))) ∧ Mod nowhere w w' := by
  subst hnx; exact fair_calls A m c B n l f w hr hB hl hm h1 h6
theorem longest_callsZ (A : Option Addr) (m c B n : Nat) (l : List Int) (nx : Int) (w : World) (hnx : nx = n) (hr : Reads w B 1 A m (l.map (Value.int .i64))) (hB : B ≤ w.heap.size) (hl : l.length = m) (hm : m ≤ 1000) (h1 : 1 ≤ n) (h6 : n ≤ 6) :
    Calls Try.prog 10 #[.slice A m c, .int .i64 nx] w fun e w' => e = .returned (.int .i64 (longM l n)) ∧ Mod nowhere w w' := by
  subst hnx; exact longest_calls A m c B n l w hr hB hl hm h1 h6

theorem reads_four (w : World) (a b c d : Int) : Reads (w.alloc (.cells #[.int .i64 a, .int .i64 b, .int .i64 c, .int .i64 d] 3)) (w.heap.size + 1) 1 (some ⟨w.heap.size, 0, none⟩) 4 ([a, b, c, d].map (Value.int .i64)) := by
  refine ⟨rfl, fun _ => ⟨_, rfl, Nat.lt_succ_self _, fun j u hu => ?_⟩⟩
  exact World.news_of_block (B := w.heap.size) (cs := #[.int .i64 a, .int .i64 b, .int .i64 c, .int .i64 d]) (t := 3) (fr := (0, 0)) (Blk.new _ _ _) j u (by simpa using hu)
theorem stM_ex : (stM 2 2 [0, 0, 0, 0]).2 = [0, 1, 0, 1] := by decide +kernel
theorem longM_ex : longM [0, 1, 0, 1] 2 = 1 := by decide +kernel
set_option maxRecDepth 100000 in
set_option maxHeartbeats 4000000 in
theorem alive22_calls (w : World) :
    Calls Try.prog 9 #[] w fun en w' => en = .returned (.bool true) ∧ Mod nowhere w w' := by
  have hr := hide (reads_four w 0 0 0 0)
  go_enter Try.func9, Try.ntmps9
  go_wp2_with fail
  (with_reducible refine (make_callsZ _ 4 4 _ 2 [0, 0, 0, 0] 2 2 _ rfl hr.out (by simp) rfl (by omega) (by omega) (by omega) (by omega) (by omega)).mono ?_)
  rintro e w1 ⟨z, rfl, hz, hm1⟩
  rw [stM_ex] at hz
  obtain ⟨A1, c1, rfl, hrd⟩ := hz.reads
  have y1 : Mod nowhere w w1 := (by repeat (first | with_reducible exact Mod.refl _ _ | with_reducible assumption | with_reducible refine Mod.alloc ?_ _ | with_reducible refine Mod.drew ?_ | with_reducible refine Mod.drewN ?_ _ | with_reducible refine Mod.setCell ?_ (by first | exact .inl rfl | (left; (try unfold from_); show _ ≤ _; first | omega | (simp; done) | (simp; omega)) | (right; first | omega | (simp; done) | (simp; omega))) _ | with_reducible refine Mod.call0 ?_ (by with_reducible assumption) | with_reducible refine Mod.call ?_ (by with_reducible assumption) (by first | (rintro _ rfl; first | exact .inl rfl | (right; (first | omega | (simp; done) | (simp; omega)))) | (rintro _ (rfl | rfl) <;> (right; (first | omega | (simp; done) | (simp; omega)))))))
  have HRD := hide hrd
  have hr2 := hide (reads_four w1 0 1 0 1)
  clear hrd hz
  go_wp2_with fail
  (with_reducible refine (ints_same [0, 1, 0, 1] _ _ 4 _ _ w1.heap.size (w1.heap.size + 1) _ rfl (by omega) (HRD.out.keepMod (Nat.le_refl _) ((Mod.refl _ _).alloc _)) hr2.out (by simp) (by simp)).mono ?_)
  rintro e w2 ⟨rfl, hm2⟩
  have y12 : Mod nowhere w1 w2 := ((Mod.refl _ _).alloc _).call0 hm2
  go_wp2_with fail
  (with_reducible refine (fair_callsZ _ 4 _ w1.heap.size 2 [0, 1, 0, 1] 2 2 _ rfl (HRD.out.keepMod (Nat.le_refl _) y12) y12.size rfl (by omega) (by omega) (by omega)).mono ?_)
  rintro e w3 ⟨rfl, hm3⟩
  rw [longM_ex]
  have y13 := y12.call0 hm3
  go_wp2_with fail
  (with_reducible refine (longest_callsZ _ 4 _ w1.heap.size 2 [0, 1, 0, 1] 2 _ rfl (HRD.out.keepMod (Nat.le_refl _) y13) y13.size rfl (by omega) (by omega) (by omega)).mono ?_)
  rintro e w4 ⟨rfl, hm4⟩
  rw [longM_ex]
  go_wp2
  go_ret
  exact ⟨by simp, (y1.call0 y13).call0 hm4⟩
end Go.Proofs.Ytffeidjalphemaa
