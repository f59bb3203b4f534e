/- What the calls do to an arena, a table and cells of it; the document's example of layer 4. -/
import Derived.Test.YtanmibdnnjfpbaaCells6
namespace Go.Proofs.Ytanmibdnnjfpbaa
open Go.RowKit

section
variable {B r N nd : Nat} {K : KD} {cs : List Value} {v : Nat → Nat} {M : Int → Option Nat} {q : Int → Nat} {st : Int → Int}
theorem sys_status (w : World) (h : Sys w B K r N cs v nd M q st) (id : Int) (hi : I64 id) :
    Calls Try.prog 34 #[.pointer (some ⟨K.t, 0, none⟩), .int .i64 id] w fun e w' => e = .returned (.int .i64 (st id)) ∧ Sys w' B K r N cs v nd M q st ∧ Mod (Wd K M q) w w' := by
  cases hM : M id with
  | none =>
    rw [h.non id hM]
    exact (status_none K.t K.a K.m nd M id w h.tab h.map hi hM).mono (by rintro e w' ⟨rfl, hm⟩; exact ⟨rfl, h.keep0 hm, hm.mono fun _ x => x.elim⟩)
  | some d =>
    obtain ⟨p, x, hd⟩ := h.dsc id d hM
    obtain ⟨acc, hs⟩ := h.dst id d hM
    exact (status_calls K.t K.a K.m nd M id d (q id) p x (st id) acc w h.tab h.map hi hM hd hs).mono (by rintro e w' ⟨rfl, h1, hm⟩; exact ⟨rfl, h.sameSt hM hm h1, hm.mono fun b e => .inr ⟨id, d, hM, e⟩⟩)
/-- What an object's value is now: its locator has number l. -/
def Cur (cs : List Value) (N : Nat) (st : Int → Int) (l : Nat) (val : Int) : Prop :=
  ∃ (own old new : Int) (y : Nat), l < N ∧ Rec9 cs l 2 0 own old new 0 0 0 0 ∧ I64 own ∧ (if own = -1 ∨ st own = 2 then new else old) = (y : Int) ∧ y < N ∧ Rec9 cs y 1 val 0 0 0 0 0 0 0
theorem Cur.more {cs cs' : List Value} {N N' : Nat} {st : Int → Int} {l : Nat} {val : Int} (h : Cur cs N st l val) (hN : N ≤ N') : Cur (cs ++ cs') N' st l val := by
  obtain ⟨own, old, new, y, h1, h2, h3, h4, h5, h6⟩ := h
  exact ⟨own, old, new, y, by omega, h2.more, h3, h4, by omega, h6.more⟩
theorem sys_cur (w : World) (h : Sys w B K r N cs v nd M q st) (ix : Int) (i : Nat) (hix : ix = i) (hi : i < K.k) (val : Int) (hc : Cur cs N st (v i) val) :
    Calls Try.prog 20 #[.pointer (some ⟨K.c, 0, none⟩), .pointer (some ⟨K.t, 0, none⟩), .int .i64 ix] w fun e w' => e = .returned (.tuple #[.int .i64 val, .int .i64 0]) ∧ Sys w' B K r N cs v nd M q st ∧ Mod (Wd K M q) w w' := by
  obtain ⟨own, old, new, y, h1, h2, h3, h4, h5, h6⟩ := hc
  obtain ⟨acc, hw⟩ := h.cf.wrd i hi
  have hfit := h.fit
  have h4' := h.m4
  cases hM : M own with
  | none =>
    have hst : ∀ W, Mod (· = K.s i) w W → Calls Try.prog 34 #[.pointer (some ⟨K.t, 0, none⟩), .int .i64 own] W fun e W' => e = .returned (.int .i64 (st own)) ∧ Mod nowhere W W' := by
      intro W hW
      rw [h.non own hM]
      have e5 : ¬ K.t = K.s i := Blk.ne_ h.tab hw (by decide)
      have e6 : ¬ K.m = K.s i := h.map.ne_blk hw
      exact status_none K.t K.a K.m nd M own W (Blk.keep h.tab hW e5) (h.map.keep hW e6) h3 hM
    exact (cur_none K.c K.a K.rc K.k r N K.most K.ws cs ix i (K.s i) (v i) y own old new (st own) val acc _ w h.cf.cls h.cf.arn (by omega) hix hi h.k8 (h.cf.at_ i hi) hw (h.cf.ap i hi) h1 h2 hst h4 h5 h6).mono
      (by rintro e w' ⟨rfl, h7, hm⟩; exact ⟨rfl, h.sameCellWord hi hm h7, hm.mono fun b e => .inl ⟨i, hi, e⟩⟩)
  | some d =>
    obtain ⟨p, x, hd⟩ := h.dsc own d hM
    obtain ⟨acc2, hs⟩ := h.dst own d hM
    have e1 : q own ≠ K.s i := fun e => h.sq i own d hi hM e.symm
    have e2 := h.other hs (by decide) (by decide) (by decide) (by decide)
    have hst : ∀ W, Mod (· = K.s i) w W → Calls Try.prog 34 #[.pointer (some ⟨K.t, 0, none⟩), .int .i64 own] W fun e W' => e = .returned (.int .i64 (st own)) ∧ IsWord W' (q own) (st own) (wrap64 (acc2 + 1)) ∧ Mod (· = q own) W W' := by
      intro W hW
      have e5 : ¬ K.t = K.s i := Blk.ne_ h.tab hw (by decide)
      have e6 : ¬ K.m = K.s i := h.map.ne_blk hw
      have e7 : ¬ d = K.s i := Blk.ne_ hd hw (by decide)
      exact status_calls K.t K.a K.m nd M own d (q own) p x (st own) acc2 W (Blk.keep h.tab hW e5) (h.map.keep hW e6) h3 hM (Blk.keep hd hW e7) (Blk.keep hs hW e1)
    exact (cur_some K.c K.a K.rc K.k r N K.most K.ws cs ix i (K.s i) (v i) y own old new (st own) val acc (q own) acc2 _ w h.cf.cls h.cf.arn (by omega) hix hi h.k8 (h.cf.at_ i hi) hw (h.cf.ap i hi) ⟨e1, e2.1, e2.2.2.1, e2.2.1, e2.2.2.2.1⟩ hs.lt h1 h2 hst h4 h5 h6).mono
      (by
        rintro e w' ⟨rfl, h7, h8, hm⟩
        refine ⟨rfl, h.words hm (fun b e => ?_) (fun j hj => ?_) (fun j d' hj => ?_) h.non, hm.mono fun b e => ?_⟩
        · rcases e with e | e
          · exact .inl ⟨i, hi, e⟩
          · exact .inr ⟨own, d, hM, e⟩
        · by_cases hij : j = i
          · subst hij; exact .inl ⟨_, h7⟩
          · exact .inr ⟨fun e => e.elim (h.cf.dd j i hj hi hij) (h.sq j own d hj hM), rfl⟩
        · by_cases hij : j = own
          · subst hij; exact .inl ⟨_, h8⟩
          · exact .inr ⟨fun e => e.elim (fun e => h.sq i j d' hi hj e.symm) (h.qq j own d' d hj hM hij), rfl⟩
        · rcases e with e | e
          · exact .inl ⟨i, hi, e⟩
          · exact .inr ⟨own, d, hM, e⟩)
theorem sys_load (w : World) (h : Sys w B K r N cs v nd M q st) (ix : Int) (i : Nat) (hix : ix = i) (hi : i < K.k) :
    Calls Try.prog 19 #[.pointer (some ⟨K.c, 0, none⟩), .int .i64 ix] w fun e w' => e = .returned (.tuple #[.int .i64 (v i), .int .i64 0]) ∧ Sys w' B K r N cs v nd M q st ∧ Mod (Wd K M q) w w' := by
  obtain ⟨acc, hw⟩ := h.cf.wrd i hi
  exact (cload_ok K.c K.a K.rc K.k K.ws ix i (K.s i) (v i) acc w h.cf.cls hix hi h.k8 (h.cf.at_ i hi) hw).mono (by rintro e w' ⟨rfl, h7, hm⟩; exact ⟨rfl, h.sameCellWord hi hm h7, hm.mono fun b e => .inl ⟨i, hi, e⟩⟩)
theorem sys_swap (w : World) (h : Sys w B K r N cs v nd M q st) (ix old new : Int) (i x : Nat) (hix : ix = i) (hi : i < K.k) (hn : new = x) :
    Calls Try.prog 12 #[.pointer (some ⟨K.c, 0, none⟩), .int .i64 ix, .int .i64 old, .int .i64 new] w fun e w' => e = .returned (.bool ((v i : Int) == old)) ∧ Sys w' B K r N cs (upd v i (if (v i : Int) = old then x else v i)) nd M q st ∧ Mod (Wd K M q) w w' := by
  obtain ⟨acc, hw⟩ := h.cf.wrd i hi
  refine (cswap_ok K.c K.a K.rc K.k K.ws ix old new i (K.s i) (v i) acc w h.cf.cls hix hi h.k8 (h.cf.at_ i hi) hw).mono ?_
  rintro e w' ⟨rfl, h7, hm⟩
  subst hn
  refine ⟨rfl, h.setCellWord hi hm (acc := wrap64 (acc + 1)) ?_, hm.mono fun b e => .inl ⟨i, hi, e⟩⟩
  by_cases e : (v i : Int) = old
  · rw [if_pos e] at h7 ⊢; exact h7
  · rw [if_neg e] at h7 ⊢; exact h7
theorem sys_ver (w : World) (h : Sys w B K r N cs v nd M q st) (hB : B ≤ w.heap.size) (x : Int) (hN : (N : Int) < K.most) :
    Calls Try.prog 8 #[.pointer (some ⟨K.c, 0, none⟩), .int .i64 x] w fun e w' => ∃ r', e = .returned (.tuple #[.int .i64 N, .int .i64 0]) ∧ Sys w' B K r' (N + 1) (cs ++ [.int .i64 1, .int .i64 x, .int .i64 0, .int .i64 0, .int .i64 0, .int .i64 0, .int .i64 0, .int .i64 0, .int .i64 0]) v nd M q st ∧ (r' = r ∨ w.heap.size ≤ r') ∧ Mod (In K r M q) w w' := by
  obtain ⟨A, cap, hc, -⟩ := h.cf.cls
  have h4' := h.m4
  refine (ver_ok x K.c K.a r N (.slice A K.k cap) K.most cs w hc h.cf.arn hN h4').mono ?_
  rintro e w' ⟨rfl, ⟨r', hr', hne, ha⟩, hm⟩
  exact ⟨r', rfl, h.put hB ha hr' hm (by omega) (by omega), hr', hm.mono fun b e => .inr (e.elim .inl fun e => .inr (.inr (.inl e)))⟩
theorem sys_bld (w : World) (h : Sys w B K r N cs v nd M q st) (hB : B ≤ w.heap.size) (own old new p1 p2 : Int) (i j : Nat) (hio : old = i) (hjn : new = j) (hi : i < N) (hj : j < N) (hri : Rec9 cs i 1 p1 0 0 0 0 0 0 0) (hrj : Rec9 cs j 1 p2 0 0 0 0 0 0 0) (ho : -1 ≤ own) (hN : (N : Int) < K.most) :
    Calls Try.prog 10 #[.pointer (some ⟨K.c, 0, none⟩), .int .i64 own, .int .i64 old, .int .i64 new] w fun e w' => ∃ r', e = .returned (.tuple #[.int .i64 N, .int .i64 0]) ∧ Sys w' B K r' (N + 1) (cs ++ [.int .i64 2, .int .i64 0, .int .i64 own, .int .i64 old, .int .i64 new, .int .i64 0, .int .i64 0, .int .i64 0, .int .i64 0]) v nd M q st ∧ (r' = r ∨ w.heap.size ≤ r') ∧ Mod (In K r M q) w w' := by
  obtain ⟨A, cap, hc, -⟩ := h.cf.cls
  have h4' := h.m4
  refine (bld_ok own old new p1 p2 K.c K.a r N (.slice A K.k cap) K.most cs w hc h.cf.arn i j hio hjn hi hj hri hrj ho hN h4').mono ?_
  rintro e w' ⟨rfl, ⟨r', hr', hne, ha⟩, hm⟩
  exact ⟨r', rfl, h.put hB ha hr' hm (by omega) (by omega), hr', hm.mono fun b e => .inr (e.elim .inl fun e => .inr (.inr (.inl e)))⟩
theorem sys_beg (w : World) (h : Sys w B K r N cs v nd M q st) (hB : B ≤ w.heap.size) (x0 x1 x2 x3 x4 : Int) (hN : (N : Int) < K.most) (h0 : 0 ≤ x0) (h1 : 0 ≤ x1) (h2 : 0 ≤ x2) (h3 : 0 ≤ x3) (h5 : 0 ≤ x4) :
    Calls Try.prog 13 #[.pointer (some ⟨K.t, 0, none⟩), .int .i64 x0, .int .i64 x1, .int .i64 x2, .int .i64 x3, .int .i64 x4] w
      fun e w' => ∃ r' d x, e = .returned (.tuple #[.int .i64 N, .int .i64 0]) ∧ (r' = r ∨ w.heap.size ≤ r') ∧ Sys w' B K r' (N + 1) (cs ++ [.int .i64 3, .int .i64 0, .int .i64 0, .int .i64 0, .int .i64 0, .int .i64 x0, .int .i64 x1, .int .i64 x2, .int .i64 x3]) v (nd + 1) (updz M N (some d)) (updz q N x) (updz st N 1) ∧ Mod (In K r M q) w w' := by
  have h4' := h.m4
  have e5 := h.other h.tab (by decide) (by decide) (by decide) (by decide)
  obtain ⟨A1, p1, hA, -⟩ := h.cf.arn
  have e6 : K.m ≠ K.a := h.map.ne_blk hA
  have hle := h.le
  have e7 : K.m ≠ r := by
    by_cases e : r = K.a
    · rw [e]; exact e6
    · obtain ⟨cur, hx⟩ := Own.rowBlk h.cf.arn e; exact h.map.ne_blk hx
  refine (begin_calls K.t K.a r K.m N nd K.most cs M x0 x1 x2 x3 x4 w h.tab h.map h.cf.arn hN h4' (by omega) (by omega) h0 h1 h2 h3 h5).mono ?_
  rintro e w' ⟨rfl, hp, hm⟩
  obtain ⟨r', d, x, hr', c1, c2, hs⟩ := h.begin_ hB hp hm hN
  exact ⟨r', d, x, rfl, hr', hs, hm.mono fun b e => .inr (e.elim .inl fun e => .inr (.inr (e.elim .inl fun e => .inr (.inr (.inl e)))))⟩
theorem sys_turn (w : World) (h : Sys w B K r N cs v nd M q st) (id to : Int) (d : Nat) (hi : I64 id) (hM : M id = some d) :
    Calls Try.prog 14 #[.pointer (some ⟨K.t, 0, none⟩), .int .i64 id, .int .i64 to] w
      fun e w' => e = .returned (.bool (decide (st id = 1 ∧ (to = 2 ∨ to = 3)))) ∧ Sys w' B K r N cs v nd M q (updz st id (if st id = 1 ∧ (to = 2 ∨ to = 3) then to else st id)) ∧ Mod (Wd K M q) w w' := by
  have hup : (updz st id (st id)) = st := by funext j; by_cases e : j = id <;> simp [updz, e]
  obtain ⟨p, x, hd⟩ := h.dsc id d hM
  obtain ⟨acc, hs⟩ := h.dst id d hM
  by_cases hto : to = 2 ∨ to = 3
  · by_cases h1 : st id = 1
    · rw [if_pos ⟨h1, hto⟩, decide_eq_true (⟨h1, hto⟩ : st id = 1 ∧ (to = 2 ∨ to = 3))]
      rw [h1] at hs
      exact (turn_yes K.t K.a K.m nd M id to d (q id) p x acc w h.tab h.map hi hM hd hs hto).mono (by rintro e w' ⟨rfl, h7, hm⟩; exact ⟨rfl, h.setSt hM hm h7, hm.mono fun b e => .inr ⟨id, d, hM, e⟩⟩)
    · rw [if_neg (fun e => h1 e.1), decide_eq_false (fun e => h1 e.1), hup]
      exact (turn_no K.t K.a K.m nd M id to d (q id) p x (st id) acc w h.tab h.map hi hM hd hs h1 hto).mono (by rintro e w' ⟨rfl, h7, hm⟩; exact ⟨rfl, h.sameSt hM hm h7, hm.mono fun b e => .inr ⟨id, d, hM, e⟩⟩)
  · rw [if_neg (fun e => hto e.2), decide_eq_false (fun e => hto e.2), hup]
    exact (turn_bad K.t id to K.a K.m w h.tab (not_or.1 hto)).mono (by rintro e w' ⟨rfl, hm⟩; exact ⟨rfl, h.keep0 hm, hm.mono fun _ x => x.elim⟩)
end
end Go.Proofs.Ytanmibdnnjfpbaa
