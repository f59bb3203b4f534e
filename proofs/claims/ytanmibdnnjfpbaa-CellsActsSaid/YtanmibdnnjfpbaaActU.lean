/- The switch of the law CellsActs as code. -/
import Derived.Test.YtanmibdnnjfpbaaActF
import Derived.Deep.CutBlock
import Derived.Deep.Cut
import Derived.Deep.DeepCutAuto
namespace Go.Proofs.Ytanmibdnnjfpbaa
open Go.RowKit

/-- Block n of some code. -/
def findB (n : Nat) : Code → Option Code
  | .block i b => if i = n then some (.block i b) else findB n b
  | .seq a b => (findB n a).orElse fun _ => findB n b
  | .cond _ a b => (findB n a).orElse fun _ => findB n b
  | .loop b => findB n b
  | .scope b => findB n b
  | _ => none
/-- The switch of the loop's body meets Q. -/
def SwWp (Q : Exit → Act → World → Prop) (a : Act) (w : World) : Prop := (((Try.f3.body).bind (findB 2)).getD .skip).wp Try.prog Q a w
theorem kindOf_app {cs new : List Value} {N i : Nat} (h : Good cs N) (hi : i < N) : kindOf (cs ++ new) i = kindOf cs i := by
  obtain ⟨x0, x1, x2, x3, x4, x5, x6, x7, x8, hr⟩ := h.rec_ hi
  rw [hr.kind, hr.more.kind]
section
variable {w w' : World} {B : Nat} {K : KD} {r N : Nat} {cs : List Value} {v : Nat → Nat} {nd : Nat} {M : Int → Option Nat} {q : Int → Nat} {st : Int → Int} {g rl ra m ca nm : Nat} {n : Int}
theorem Sync.more {r' rl' nd' nm' : Nat} {new : List Value} {M' : Int → Option Nat} {q' : Int → Nat} {st' : Int → Int} (h : Sync w B K r N cs v nd M q st g rl ra m ca nm n) (hd : Duo w' B K r' (N + 1) (cs ++ new) v nd' M' q' st' g rl' ra m ca (N + 1) (cs ++ new) v nm' st' n) (hg : Good (cs ++ new) (N + 1)) :
    Sync w' B K r' (N + 1) (cs ++ new) v nd' M' q' st' g rl' ra m ca nm' n :=
  ⟨hd, hg, fun i hi => ⟨Nat.lt_succ_of_lt (h.locs i hi).1, (kindOf_app h.good (h.locs i hi).1).trans (h.locs i hi).2⟩, h.most, h.k1⟩
theorem Sync.keep0 (h : Sync w B K r N cs v nd M q st g rl ra m ca nm n) (hm : Mod nowhere w w') : Sync w' B K r N cs v nd M q st g rl ra m ca nm n := h.duo' (h.duo.keep0 hm)
theorem obj_same (c a r n : Nat) (cs : List Value) (w : World) (h : Cls w c a r n cs) :
    Calls Try.prog 6 #[.pointer (some ⟨c, 0, none⟩)] w fun e w' => e = .returned (.int .i64 n) ∧ w = w' := by
  obtain ⟨A, cap, hb, -, -⟩ := h.open_
  have c1 := (hb.cell 1).trans rfl
  have l_b := hb.lt
  clear h
  go_enter Try.func6, Try.ntmps6
  go_wp2
  go_ret
  exact ⟨rfl, rfl⟩
theorem cswap_same (c a r n : Nat) (cs : List Value) (i old new : Int) (w : World) (h : Cls w c a r n cs) (hi : i < 0 ∨ (n : Int) ≤ i) :
    Calls Try.prog 12 #[.pointer (some ⟨c, 0, none⟩), .int .i64 i, .int .i64 old, .int .i64 new] w fun e w' => e = .returned (.bool false) ∧ w = w' := by
  by_cases h0 : i < 0
  · have e1 : decide (0 ≤ i) = false := by simp; omega
    go_enter Try.func12, Try.ntmps12
    go_wp2
    go_ret
    exact ⟨rfl, rfl⟩
  · have h2 : (n : Int) ≤ i := by omega
    have h3 : 0 ≤ i := by omega
    have e1 : decide (i < (n : Int)) = false := by simp; omega
    go_enter Try.func12, Try.ntmps12
    go_wp2_with (go_at_call 6; (with_reducible refine (obj_same c a r n cs _ h).mono ?_); rintro e w' ⟨rfl, rfl⟩)
    go_ret
    exact ⟨rfl, rfl⟩
theorem ris_yes (X k : Int) (W : World) (hR : Ref W g rl ra m ca K.k n N cs v nm st) (hG : Good cs N) (hN : N ≤ 4096) (hX : I64 X) (hK : IsK cs N X k) :
    Calls Try.prog 11 #[.pointer (some ⟨g, 0, none⟩), .int .i64 X, .int .i64 k] W fun e w' => e = .returned (.bool true) ∧ W = w' :=
  (ris_same X k g rl N n _ _ cs W hR.lst hG.kinds hN hX).mono (by rintro e w' ⟨rfl, hm⟩; exact ⟨by rw [show decide (0 ≤ X ∧ X < (N : Int) ∧ kindOf cs X.toNat = k) = true from decide_eq_true hK], hm⟩)
theorem ris_no (X k : Int) (W : World) (hR : Ref W g rl ra m ca K.k n N cs v nm st) (hG : Good cs N) (hN : N ≤ 4096) (hX : I64 X) (hK : ¬ IsK cs N X k) :
    Calls Try.prog 11 #[.pointer (some ⟨g, 0, none⟩), .int .i64 X, .int .i64 k] W fun e w' => e = .returned (.bool false) ∧ W = w' :=
  (ris_same X k g rl N n _ _ cs W hR.lst hG.kinds hN hX).mono (by rintro e w' ⟨rfl, hm⟩; exact ⟨by rw [show decide (0 ≤ X ∧ X < (N : Int) ∧ kindOf cs X.toNat = k) = false from decide_eq_false hK], hm⟩)
theorem two_in {b : Nat} (h : two g rl b) : InR g rl ra m b := h.elim .inl fun h => .inr (.inl h)
/-- Put, of both. -/
theorem Duo.rput {cs2 : List Value} {N2 : Nat} {v2 : Nat → Nat} {st2 : Int → Int} (x0 x1 x2 x3 x4 x5 x6 x7 x8 : Int) (w : World) (h : Duo w B K r N cs v nd M q st g rl ra m ca N2 cs2 v2 nm st2 n) (hn : (N2 : Int) < n) (hm : n ≤ 4096) :
    Calls Try.prog 9 #[.pointer (some ⟨g, 0, none⟩), .agg #[.int .i64 x0, .int .i64 x1, .int .i64 x2, .int .i64 x3, .int .i64 x4, .int .i64 x5, .int .i64 x6, .int .i64 x7, .int .i64 x8]] w fun e w' => ∃ rl', e = .returned (.int .i64 N2) ∧ Duo w' B K r N cs v nd M q st g rl' ra m ca (N2 + 1) (cs2 ++ [.int .i64 x0, .int .i64 x1, .int .i64 x2, .int .i64 x3, .int .i64 x4, .int .i64 x5, .int .i64 x6, .int .i64 x7, .int .i64 x8]) v2 nm st2 n ∧ Mod (InR g rl ra m) w w' := by
  refine (rput_ok x0 x1 x2 x3 x4 x5 x6 x7 x8 g rl N2 n _ _ cs2 w h.ref.lst hn hm).mono ?_
  rintro e w' ⟨rfl, hp, hmm⟩
  obtain ⟨rl', hl, hr⟩ := h.ref.put hp hmm
  exact ⟨rl', rfl, h.refS hr hl hmm fun b x => two_in x, hmm.mono fun b x => two_in x⟩
theorem Duo.notAct {cs2 : List Value} {N2 : Nat} {v2 : Nat → Nat} {st2 : Int → Int} (h : Duo w B K r N cs v nd M q st g rl ra m ca N2 cs2 v2 nm st2 n) {b : Nat} {xs : Array Value} (hb : Blk w b 40 xs) : ¬ In K r M q b ∧ ¬ InR g rl ra m b := by
  refine ⟨h.sys.notIn hb (by decide) (by decide) (by decide) (by decide) (by decide) (by decide) (by decide), ?_⟩
  obtain ⟨cap, hg, -, hne⟩ := h.ref.open_
  obtain ⟨cur, hr⟩ := Own.rowBlk h.ref.lst hne
  obtain ⟨c2, ha, -⟩ := h.ref.row
  rintro (e | e | e | e)
  · exact Blk.ne_ hb hg (by decide) e
  · exact Blk.ne_ hb hr (by decide) e
  · exact Blk.ne_ hb ha (by decide) e
  · exact h.ref.map.ne_blk hb e.symm
theorem sys_beg2 (w : World) (h : Sys w B K r N cs v nd M q st) (hB : B ≤ w.heap.size) (x0 x1 x2 x3 x4 : Int) (hN : (N : Int) < K.most) (h0 : 0 ≤ x0) (h1 : 0 ≤ x1) (h2 : 0 ≤ x2) (h3 : 0 ≤ x3) (h5 : 0 ≤ x4) :
    Calls Try.prog 13 #[.pointer (some ⟨K.t, 0, none⟩), .int .i64 x0, .int .i64 x1, .int .i64 x2, .int .i64 x3, .int .i64 x4] w
      fun e w' => ∃ r' d x, e = .returned (.tuple #[.int .i64 N, .int .i64 0]) ∧ (r' = r ∨ w.heap.size ≤ r') ∧ w.heap.size ≤ d ∧ w.heap.size ≤ x ∧ Sys w' B K r' (N + 1) (cs ++ [.int .i64 3, .int .i64 0, .int .i64 0, .int .i64 0, .int .i64 0, .int .i64 x0, .int .i64 x1, .int .i64 x2, .int .i64 x3]) v (nd + 1) (updz M N (some d)) (updz q N x) (updz st N 1) ∧ Mod (In K r M q) w w' := by
  have h4' := h.m4
  have e5 := h.other h.tab (by decide) (by decide) (by decide) (by decide)
  obtain ⟨A1, p1, hA, -⟩ := h.cf.arn
  have e6 : K.m ≠ K.a := h.map.ne_blk hA
  have hle := h.le
  have e7 : K.m ≠ r := by
    by_cases e : r = K.a
    · rw [e]; exact e6
    · obtain ⟨cur, hx⟩ := Own.rowBlk h.cf.arn e; exact h.map.ne_blk hx
  refine (begin_calls K.t K.a r K.m N nd K.most cs M x0 x1 x2 x3 x4 w h.tab h.map h.cf.arn hN h4' (by omega) (by omega) h0 h1 h2 h3 h5).mono ?_
  rintro e w' ⟨rfl, hp, hm⟩
  obtain ⟨r', d, x, hr', c1, c2, hs⟩ := h.begin_ hB hp hm hN
  exact ⟨r', d, x, rfl, hr', c1, c2, hs, hm.mono fun b e => .inr (e.elim .inl fun e => .inr (.inr (e.elim .inl fun e => .inr (.inr (.inl e)))))⟩
/-- Turn, whatever it is. -/
theorem turn_any (w : World) (h : Sys w B K r N cs v nd M q st) (id tt : Int) (hi : I64 id) :
    Calls Try.prog 14 #[.pointer (some ⟨K.t, 0, none⟩), .int .i64 id, .int .i64 tt] w
      fun e w' => (e = .returned (.bool true) ∧ Sys w' B K r N cs v nd M q (updz st id tt) ∨ e = .returned (.bool false) ∧ Sys w' B K r N cs v nd M q st) ∧ Mod (Wd K M q) w w' := by
  by_cases hto : tt = 2 ∨ tt = 3
  · cases hM : M id with
    | none => exact (turn_none K.t K.a K.m nd M id tt w h.tab h.map hi hM hto).mono (by rintro e w' ⟨rfl, hm⟩; exact ⟨.inr ⟨rfl, h.keep0 hm⟩, hm.mono fun _ x => x.elim⟩)
    | some d =>
      by_cases h1 : st id = 1
      · refine (sys_turn w h id tt d hi hM).mono ?_
        rintro e w' ⟨rfl, hs, hm⟩
        rw [if_pos ⟨h1, hto⟩] at hs
        exact ⟨.inl ⟨by rw [decide_eq_true (⟨h1, hto⟩ : st id = 1 ∧ (tt = 2 ∨ tt = 3))], hs⟩, hm⟩
      · refine (sys_turn w h id tt d hi hM).mono ?_
        rintro e w' ⟨rfl, hs, hm⟩
        rw [if_neg (fun x => h1 x.1), show updz st id (st id) = st from by funext j; by_cases e : j = id <;> simp [updz, e]] at hs
        exact ⟨.inr ⟨by rw [decide_eq_false (fun x => h1 x.1)], hs⟩, hm⟩
  · exact (turn_bad K.t id tt K.a K.m w h.tab (not_or.1 hto)).mono (by rintro e w' ⟨rfl, hm⟩; exact ⟨.inr ⟨rfl, h.keep0 hm⟩, hm.mono fun _ x => x.elim⟩)
/-- All objects' values. -/
theorem Sync.vals (h : Sync w B K r N cs v nd M q st g rl ra m ca nm n) : ∃ l : List Int, l.length = K.k ∧ ∀ i x, l[i]? = some x → Cur cs N st (v i) x := by
  have key : ∀ j, j ≤ K.k → ∃ l : List Int, l.length = j ∧ ∀ i x, l[i]? = some x → Cur cs N st (v i) x := by
    intro j
    induction j with
    | zero => exact fun _ => ⟨[], rfl, fun i x hx => by simp at hx⟩
    | succ j ih =>
      intro hj
      obtain ⟨l, hl, hc⟩ := ih (by omega)
      obtain ⟨h1, h2⟩ := h.locs j (by omega)
      obtain ⟨val, hv⟩ := h.good.cur h1 h2 st
      refine ⟨l ++ [val], by simp [hl], fun i x hx => ?_⟩
      by_cases e : i < l.length
      · rw [List.getElem?_append_left e] at hx
        exact hc i x hx
      · have hlt := (List.getElem?_eq_some_iff.1 hx).1
        simp at hlt
        obtain rfl : i = j := by omega
        rw [List.getElem?_append_right (by omega), hl, Nat.sub_self] at hx
        simp at hx
        rw [← hx]
        exact hv
  exact key K.k (Nat.le_refl _)
theorem Duo.ge {cs2 : List Value} {N2 : Nat} {v2 : Nat → Nat} {st2 : Int → Int} (h : Duo w B K r N cs v nd M q st g rl ra m ca N2 cs2 v2 nm st2 n) {b : Nat} (hb : In K r M q b ∨ InR g rl ra m b) : B ≤ b := by
  rcases hb with hb | hb
  · exact h.sys.ge hb
  · have := h.rB
    rcases hb with e | e | e | e <;> omega
end

end Go.Proofs.Ytanmibdnnjfpbaa
