/- The law CellsClaim, walked. -/
import Derived.Test.YtelammmgcfmlbaaCells9
import Derived.IntWalk
namespace Go.Proofs.Ytelammmgcfmlbaa
open Go.RowKit

section
variable {B r N nd : Nat} {K : KD} {cs : List Value} {v : Nat → Nat} {M : Int → Option Nat} {q : Int → Nat} {st : Int → Int}
theorem sys_loc (w : World) (h : Sys w B K r N cs v nd M q st) (ix : Int) (i : Nat) (own old new : Int) (hix : ix = i) (hi : i < N) (hr : Rec9 cs i 2 0 own old new 0 0 0 0) :
    Calls Try.prog 33 #[.pointer (some ⟨K.c, 0, none⟩), .int .i64 ix] w fun e w' => e = .returned (.tuple #[.agg #[.int .i64 2, .int .i64 0, .int .i64 own, .int .i64 old, .int .i64 new, .int .i64 0, .int .i64 0, .int .i64 0, .int .i64 0], .int .i64 0]) ∧ Mod nowhere w w' := by
  obtain ⟨A, cap, hc, -⟩ := h.cf.cls
  have hfit := h.fit
  have h4' := h.m4
  exact loc_hit 2 0 own old new 0 0 0 0 K.c K.a r N (.slice A K.k cap) K.most cs w hc h.cf.arn ix i hix hi (by omega) hr rfl
theorem sys_val (w : World) (h : Sys w B K r N cs v nd M q st) (ix : Int) (i : Nat) (x : Int) (hix : ix = i) (hi : i < N) (hr : Rec9 cs i 1 x 0 0 0 0 0 0 0) :
    Calls Try.prog 32 #[.pointer (some ⟨K.c, 0, none⟩), .int .i64 ix] w fun e w' => e = .returned (.tuple #[.int .i64 x, .int .i64 0]) ∧ Mod nowhere w w' := by
  obtain ⟨A, cap, hc, -⟩ := h.cf.cls
  have hfit := h.fit
  have h4' := h.m4
  exact val_hit 1 x 0 0 0 0 0 0 0 K.c K.a r N (.slice A K.k cap) K.most cs w hc h.cf.arn ix i hix hi (by omega) hr rfl
theorem sys_swap_yes (w : World) (h : Sys w B K r N cs v nd M q st) (ix old new : Int) (i x : Nat) (hix : ix = i) (hi : i < K.k) (hn : new = x) (he : (v i : Int) = old) :
    Calls Try.prog 31 #[.pointer (some ⟨K.c, 0, none⟩), .int .i64 ix, .int .i64 old, .int .i64 new] w fun e w' => e = .returned (.bool true) ∧ Sys w' B K r N cs (upd v i x) nd M q st ∧ Mod (Wd K M q) w w' := by
  have := sys_swap w h ix old new i x hix hi hn
  rwa [if_pos he, show ((v i : Int) == old) = true from beq_iff_eq.2 he] at this
theorem sys_swap_no (w : World) (h : Sys w B K r N cs v nd M q st) (ix old new : Int) (i : Nat) (hix : ix = i) (hi : i < K.k) (he : ¬ (v i : Int) = old) :
    Calls Try.prog 31 #[.pointer (some ⟨K.c, 0, none⟩), .int .i64 ix, .int .i64 old, .int .i64 new] w fun e w' => e = .returned (.bool false) ∧ Sys w' B K r N cs v nd M q st ∧ Mod (Wd K M q) w w' := by
  obtain ⟨acc, hw⟩ := h.cf.wrd i hi
  refine (cswap_ok K.c K.a K.rc K.k K.ws ix old new i (K.s i) (v i) acc w h.cf.cls hix hi h.k8 (h.cf.at_ i hi) hw).mono ?_
  rintro e w' ⟨rfl, h7, hm⟩
  rw [if_neg he] at h7
  rw [show ((v i : Int) == old) = false from beq_eq_false_iff_ne.2 he]
  exact ⟨rfl, h.sameCellWord hi hm h7, hm.mono fun b e => .inl ⟨i, hi, e⟩⟩
theorem In.newr {w : World} {r' b : Nat} (h : ¬ In K r M q b) (hb : b < w.heap.size) (hr : r' = r ∨ w.heap.size ≤ r') : ¬ In K r' M q b := by
  rintro (e | e | e | e | e)
  · exact h (.inl e)
  · exact h (.inr (.inl e))
  · exact h (.inr (.inr (.inl e)))
  · rcases hr with hr | hr
    · exact h (.inr (.inr (.inr (.inl (e.trans hr)))))
    · omega
  · exact h (.inr (.inr (.inr (.inr e))))
theorem First.ver {l : List Int} {n i : Nat} {x : Int} (h : First l n cs) (hi : i < n) (hx : l[i]? = some x) : Rec9 cs (2 * i) 1 x 0 0 0 0 0 0 0 := (h i x hi hx).1
theorem First.loc {l : List Int} {n i : Nat} {x : Int} (h : First l n cs) (hi : i < n) (hx : l[i]? = some x) : Rec9 cs (2 * i + 1) 2 0 (-1) (2 * (i : Int)) (2 * (i : Int)) 0 0 0 0 := (h i x hi hx).2
theorem First.cur {l : List Int} {n N i : Nat} {x : Int} (h : First l n cs) (hi : i < n) (hx : l[i]? = some x) (hN : 2 * n ≤ N) : Cur cs N st (2 * i + 1) x := by
  obtain ⟨h1, h2⟩ := h i x hi hx
  exact ⟨-1, 2 * (i : Int), 2 * (i : Int), 2 * i, by omega, h2, by unfold I64; omega, by simp, by omega, h1⟩
end
theorem Reads.keepMod {w w' : World} {B n : Nat} {A : Option Addr} {xs : List Value} (h : Reads w B 1 A n xs) (hB : B ≤ w.heap.size) (hm : Mod nowhere w w') : Reads w' B 1 A n xs :=
  h.keep fun p hp => World.cell?_of_block (hm.block p.block (by omega) id)
theorem sys_all_n {B r N nd : Nat} {K : KD} {cs : List Value} {v : Nat → Nat} {M : Int → Option Nat} {q : Int → Nat} {st : Int → Int} (w : World) (h : Sys w B K r N cs v nd M q st) (l : List Int) (n : Nat) (hk : K.k = n) (hl : l.length = n) (hc : ∀ i x, l[i]? = some x → Cur cs N st (v i) x) :
    Calls Try.prog 39 #[.pointer (some ⟨K.c, 0, none⟩), .pointer (some ⟨K.t, 0, none⟩)] w fun e w' => ∃ z, e = .returned z ∧ LocRow w' w.heap.size 2 1 z n (l.map (Value.int .i64)) ∧ Sys w' B K r N cs v nd M q st ∧ Mod (Wd K M q) w w' := by
  subst hk
  exact sys_all w h l hl hc
theorem LocRow.reads {w : World} {H n : Nat} {E : TypeId} {size : Nat} {z : Value} {xs : List Value} (h : LocRow w H E size z n xs) : ∃ A c, z = .slice A n c ∧ Reads w w.heap.size size A n xs := by
  obtain ⟨A, cap, rfl, ho, -⟩ := h
  exact ⟨A, cap, rfl, Reads.of_own ho⟩

set_option maxRecDepth 100000 in
set_option maxHeartbeats 8000000 in
theorem law_cellsClaim (A : Option Addr) (n c : Nat) (l : List Int) (obj to : Int) (A3 : Option Addr) (n3 c3 : Nat) (l3 : List Int) (w : World) (hl : l.length = n) (hr : Reads w w.heap.size 1 A n (l.map (Value.int .i64))) (hl3 : l3.length = n3) (hr3 : Reads w w.heap.size 1 A3 n3 (l3.map (Value.int .i64))) (ho0 : 0 ≤ obj) (ho1 : obj ≤ 255) :
    Calls Try.prog 11 #[.slice A n c, .int .u8 obj, .int .i64 to, .slice A3 n3 c3] w
     fun en w' => en = .returned (.bool true) ∧ Mod nowhere w w' := by
  by_cases g0 : n < 1 ∨ 8 < n ∨ 8 < n3
  · go_enter Try.func11, Try.ntmps11
    go_wp2_with fail
    (with_reducible refine (alive4_calls _).mono ?_)
    rintro e w1 ⟨rfl, hbw1⟩
    have hzw1 := hbw1.size
    (try simp at hzw1)
    skip
    skip
    go_wp2
    all_goals first | (exfalso; omega) | skip
    all_goals go_ret
    all_goals exact ⟨rfl, (by repeat (first | with_reducible exact Mod.refl _ _ | with_reducible assumption | with_reducible refine Mod.alloc ?_ _ | with_reducible refine Mod.drew ?_ | with_reducible refine Mod.drewN ?_ _ | with_reducible refine Mod.setCell ?_ (by first | exact .inl rfl | (left; (try unfold from_); show _ ≤ _; first | omega | (simp; done) | (simp; omega)) | (right; first | omega | (simp; done) | (simp; omega))) _ | with_reducible refine Mod.call0 ?_ (by with_reducible assumption) | with_reducible refine Mod.call ?_ (by with_reducible assumption) (by first | (rintro _ rfl; first | exact .inl rfl | (right; (first | omega | (simp; done) | (simp; omega)))) | (rintro _ (rfl | rfl) <;> (right; (first | omega | (simp; done) | (simp; omega)))))))⟩
  have g1 : 1 ≤ n := by omega
  have g2 : n ≤ 8 := by omega
  have g3 : n3 ≤ 8 := by omega
  have HR := hide hr
  have HL := hide hl
  have HR3 := hide hr3
  have HL3 := hide hl3
  clear hr hl hr3 hl3 g0
  have z1 : decide (n < 1) = false := by simp; omega
  have z2 : decide (8 < n) = false := by simp; omega
  have z3 : decide (8 < n3) = false := by simp; omega
  obtain ⟨b, o, rfl, hbl, hcell⟩ := HR.out.form (by omega) (by omega)
  have HC := hide hcell
  clear hcell
  obtain ⟨j0, hj0⟩ : ∃ j : Nat, obj % (n : Int) = (j : Int) := ⟨(obj % (n : Int)).toNat, by have := Int.emod_nonneg obj (show (n : Int) ≠ 0 by omega); omega⟩
  have hjN : j0 < n := by have := Int.emod_lt_of_pos obj (show (0 : Int) < (n : Int) by omega); omega
  obtain ⟨x0, hx0⟩ : ∃ x0, l[j0]? = some x0 := ⟨_, List.getElem?_eq_getElem (show j0 < l.length by have := HL.out; omega)⟩
  have HX0 := hide hx0
  clear hx0
  go_enter Try.func11, Try.ntmps11
  go_wp2_with fail
  (with_reducible refine (alive4_calls _).mono ?_)
  rintro e w0 ⟨rfl, hbw0⟩
  have hzw0 := hbw0.size
  (try simp at hzw0)
  skip
  skip
  have y0 : Mod nowhere w w0 := (by repeat (first | with_reducible exact Mod.refl _ _ | with_reducible assumption | with_reducible refine Mod.alloc ?_ _ | with_reducible refine Mod.drew ?_ | with_reducible refine Mod.drewN ?_ _ | with_reducible refine Mod.setCell ?_ (by first | exact .inl rfl | (left; (try unfold from_); show _ ≤ _; first | omega | (simp; done) | (simp; omega)) | (right; first | omega | (simp; done) | (simp; omega))) _ | with_reducible refine Mod.call0 ?_ (by with_reducible assumption) | with_reducible refine Mod.call ?_ (by with_reducible assumption) (by first | (rintro _ rfl; first | exact .inl rfl | (right; (first | omega | (simp; done) | (simp; omega)))) | (rintro _ (rfl | rfl) <;> (right; (first | omega | (simp; done) | (simp; omega)))))))
  go_wp2_with fail
  (with_reducible refine (made4_calls 64 l b o c n _ HL.out g1 g2 (by omega) (by omega) (by have := y0.size; omega) (fun k x hk => (y0.cell (o + k) hbl id).trans (HC.out k (.int .i64 x) (by simp [hk])))).mono ?_)
  rintro e w1 ⟨K, r, cs, rfl, hk, hmo, hS1, hFi, hm1⟩
  have y1 : Mod nowhere w w1 := (by repeat (first | with_reducible exact Mod.refl _ _ | with_reducible assumption | with_reducible refine Mod.alloc ?_ _ | with_reducible refine Mod.drew ?_ | with_reducible refine Mod.drewN ?_ _ | with_reducible refine Mod.setCell ?_ (by first | exact .inl rfl | (left; (try unfold from_); show _ ≤ _; first | omega | (simp; done) | (simp; omega)) | (right; first | omega | (simp; done) | (simp; omega))) _ | with_reducible refine Mod.call0 ?_ (by with_reducible assumption) | with_reducible refine Mod.call ?_ (by with_reducible assumption) (by first | (rintro _ rfl; first | exact .inl rfl | (right; (first | omega | (simp; done) | (simp; omega)))) | (rintro _ (rfl | rfl) <;> (right; (first | omega | (simp; done) | (simp; omega)))))))
  replace hS1 := hS1.mono y0.size
  have F1 := hide hFi
  clear hFi hm1
  go_wp2_with fail
  (with_reducible refine (sys_beg _ hS1 y1.size 0 0 0 0 0 (by omega) (by decide) (by decide) (by decide) (by decide) (by decide)).mono ?_)
  rintro e w2 ⟨r2, d, x2, rfl, hr2, hS2, hm2⟩
  have y2 : Mod nowhere w w2 := y1.call hm2 fun i hi => .inr (hS1.ge hi)
  have F2 := hide (F1.out.more (cs' := [.int .i64 3, .int .i64 0, .int .i64 0, .int .i64 0, .int .i64 0, .int .i64 0, .int .i64 0, .int .i64 0, .int .i64 0]))
  have e2 := hS2.cf.arn.len
  have hMd : updz (fun _ => (none : Option Nat)) ((2 * n : Nat) : Int) (some d) ((2 * n : Nat) : Int) = some d := updz_same _ _ _
  generalize updz (fun _ => (none : Option Nat)) ((2 * n : Nat) : Int) (some d) = M at hS2 hMd
  generalize updz (fun _ => 0) ((2 * n : Nat) : Int) x2 = q at hS2
  generalize updz (fun _ => (0 : Int)) ((2 * n : Nat) : Int) 1 = st at hS2
  generalize cs ++ [.int .i64 3, .int .i64 0, .int .i64 0, .int .i64 0, .int .i64 0, .int .i64 0, .int .i64 0, .int .i64 0, .int .i64 0] = cs2 at hS2 F2
  obtain ⟨f1, f2⟩ := F2.out j0 x0 hjN HX0.out
  go_wp2_with fail
  (with_reducible refine (sys_load _ hS2 (j0 : Int) j0 rfl (by omega)).mono ?_)
  rintro e w3 ⟨rfl, hS3, hm3⟩
  have y3 : Mod nowhere w w3 := y2.call hm3 fun i hi => .inr (hS2.ge hi.in_)
  go_wp2_with fail
  (with_reducible refine (sys_loc _ hS3 (2 * (j0 : Int) + 1) (2 * j0 + 1) (-1) (2 * (j0 : Int)) (2 * (j0 : Int)) (by omega) (by omega) f2).mono ?_)
  rintro e w4 ⟨rfl, hm4⟩
  have y4 : Mod nowhere w w4 := y3.call0 hm4
  have hS4 := hS3.keep0 hm4
  go_wp2_with fail
  obtain ⟨w5, hw5⟩ : ∃ w5, w5 = w4.alloc (.cells #[.int .i64 2, .int .i64 0, .int .i64 (-1), .int .i64 (2 * (j0 : Int)), .int .i64 (2 * (j0 : Int)), .int .i64 0, .int .i64 0, .int .i64 0, .int .i64 0] 40) := ⟨_, rfl⟩
  have hm5 : Mod nowhere w4 w5 := by rw [hw5]; exact (Mod.refl _ _).alloc _
  have LB5 : Blk w5 w4.heap.size 40 #[.int .i64 2, .int .i64 0, .int .i64 (-1), .int .i64 (2 * (j0 : Int)), .int .i64 (2 * (j0 : Int)), .int .i64 0, .int .i64 0, .int .i64 0, .int .i64 0] := by rw [hw5]; exact Blk.new _ _ _
  rw [← hw5]
  clear hw5
  have y5 : Mod nowhere w w5 := y4.call0 hm5
  have hS5 := hS4.keep0 hm5
  have hLn5 : ¬ In K r2 M q w4.heap.size := fun hh => by have := hS4.lt hh; omega
  have lL5 := LB5.lt
  (with_reducible refine (sys_bld _ hS5 y5.size (2 * (n : Int)) (2 * (j0 : Int)) (2 * (j0 : Int)) x0 x0 (2 * j0) (2 * j0) (by omega) (by omega) (by omega) (by omega) f1 f1 (by omega) (by omega)).mono ?_)
  rintro e w6 ⟨r6, rfl, hS6, hr6, hm6⟩
  have y6 : Mod nowhere w w6 := y5.call hm6 fun i hi => .inr (hS5.ge hi)
  have LB6 := Blk.keep LB5 hm6 hLn5
  have hLn6 := In.newr hLn5 lL5 hr6
  have F6 := hide (F2.out.more (cs' := [.int .i64 2, .int .i64 0, .int .i64 (2 * (n : Int)), .int .i64 (2 * (j0 : Int)), .int .i64 (2 * (j0 : Int)), .int .i64 0, .int .i64 0, .int .i64 0, .int .i64 0]))
  have G6 := hide (Rec9.new 2 0 (2 * (n : Int)) (2 * (j0 : Int)) (2 * (j0 : Int)) 0 0 0 0 hS5.cf.arn.len)
  generalize cs2 ++ [.int .i64 2, .int .i64 0, .int .i64 (2 * (n : Int)), .int .i64 (2 * (j0 : Int)), .int .i64 (2 * (j0 : Int)), .int .i64 0, .int .i64 0, .int .i64 0, .int .i64 0] = cs6 at hS6 F6 G6
  generalize hL : w4.heap.size = L at *
  clear hS5 hS4 hS3 hS2 hS1 LB5 hLn5 lL5 hm6 hm5 hm4 hm3 hm2 hr6 hr2 f1 f2
  go_wp2_with fail
  go_loopw [22, 23, 24, 25, 26] (fun s22 _ _ _ _ wx => ∃ (k r N : Nat) (cs : List Value), s22 = .int .i64 k ∧ k ≤ n3 ∧ N = 2 * n + 2 + 2 * k ∧ Sys wx w.heap.size K r N cs (fun i => 2 * i + 1) (0 + 1) M q st ∧ First l n cs ∧ Rec9 cs (2 * n + 1) 2 0 (2 * (n : Int)) (2 * (j0 : Int)) (2 * (j0 : Int)) 0 0 0 0 ∧ Blk wx L 40 #[.int .i64 2, .int .i64 0, .int .i64 (-1), .int .i64 (2 * (j0 : Int)), .int .i64 (2 * (j0 : Int)), .int .i64 0, .int .i64 0, .int .i64 0, .int .i64 0] ∧ ¬ In K r M q L ∧ Mod nowhere w wx)
    (fun s22 _ _ _ _ _ => (300 - (intOf s22)).toNat)
  case atStart => exact ⟨0, r6, _, _, rfl, Nat.zero_le _, rfl, hS6, F6.out, G6.out, LB6, hLn6, y6⟩
  case round =>
    obtain ⟨k, r, N, cs, rfl, hkn, hN, hS, hF, hG, LB, hLn, hmr⟩ := hrel
    have hsz := hmr.size
    by_cases hlt : k < n3
    · obtain ⟨b3, o3, rfl, hbl3, hcell3⟩ := HR3.out.form (by omega) (by omega)
      obtain ⟨x3, hx3⟩ : ∃ x3, l3[k]? = some x3 := ⟨_, List.getElem?_eq_getElem (show k < l3.length by have := HL3.out; omega)⟩
      have hcd := (hmr.cell (o3 + k) hbl3 id).trans (hcell3 k (.int .i64 x3) (by simp [hx3]))
      clear hx3 hcell3
      have HF := hide hF
      have HG := hide hG
      clear hF hG
      go_wp2_with fail
      (with_reducible refine (sys_ver _ hS hmr.size x3 (by omega)).mono ?_)
      rintro e w7 ⟨r7, rfl, hS7, hr7, hm7⟩
      have y7 : Mod nowhere w w7 := hmr.call hm7 fun i hi => .inr (hS.ge hi)
      have LB7 := Blk.keep LB hm7 hLn
      have hLn7 := In.newr hLn LB.lt hr7
      have v7 := hide (Rec9.new 1 x3 0 0 0 0 0 0 0 hS.cf.arn.len)
      have F7 := hide (HF.out.more (cs' := [.int .i64 1, .int .i64 x3, .int .i64 0, .int .i64 0, .int .i64 0, .int .i64 0, .int .i64 0, .int .i64 0, .int .i64 0]))
      have G7 := hide (HG.out.more (cs' := [.int .i64 1, .int .i64 x3, .int .i64 0, .int .i64 0, .int .i64 0, .int .i64 0, .int .i64 0, .int .i64 0, .int .i64 0]))
      generalize cs ++ [.int .i64 1, .int .i64 x3, .int .i64 0, .int .i64 0, .int .i64 0, .int .i64 0, .int .i64 0, .int .i64 0, .int .i64 0] = cs7 at hS7 v7 F7 G7
      have c7 := LB7.cell
      have l7 := LB7.lt
      go_wp2_with fail
      (with_reducible refine (sys_bld _ hS7 y7.size (2 * (n : Int)) (2 * (j0 : Int)) (2 * (n : Int) + 2 + 2 * (k : Int)) x0 x3 (2 * j0) N (by omega) (by omega) (by omega) (by omega) (First.ver F7.out hjN HX0.out) v7.out (by omega) (by omega)).mono ?_)
      rintro e w8 ⟨r8, rfl, hS8, hr8, hm8⟩
      have y8 : Mod nowhere w w8 := y7.call hm8 fun i hi => .inr (hS7.ge hi)
      have LB8 := Blk.keep LB7 hm8 hLn7
      have hLn8 := In.newr hLn7 LB7.lt hr8
      clear hcd c7
      go_wp2
      go_roundw
      case rel => exact ⟨k + 1, r8, _, _, by go_num, by omega, by omega, hS8, F7.out.more, G7.out.more, LB8, hLn8, y8⟩
      case measure => simp [intOf] <;> omega
    · obtain rfl : n3 = k := by omega
      have CF := hide (fun (st : Int → Int) (i : Nat) (x : Int) (hx : l[i]? = some x) => First.cur (st := st) (N := N) hF (show i < n by have := (List.getElem?_eq_some_iff.1 hx).1; have := HL.out; omega) hx (by omega))
      have CU := hide (fun (st : Int → Int) (i : Nat) (x : Int) (hx : l[i]? = some x) => show Cur cs N st (upd (fun i => 2 * i + 1) j0 (2 * n + 1) i) x from by
        by_cases e : i = j0
        · subst e
          rw [upd_same]
          exact Cur.mk (2 * (n : Int)) (2 * (i : Int)) (2 * (i : Int)) (2 * i) (by omega) hG (by unfold I64; omega) (by split <;> omega) (by omega) (First.ver hF hjN hx)
        · rw [upd_other _ _ e]; exact CF.out st i x hx)
      clear hF hG LB hLn
      have hS10 := hS
      have y10 := hmr
      go_wp2_with fail
      (with_reducible refine (sys_all_n _ hS10 l n hk (HL.out) (CF.out _)).mono ?_)
      rintro e w11 ⟨z10, rfl, hz10, hS11, hm11⟩
      have y11 : Mod nowhere w w11 := y10.call hm11 fun i hi => .inr (hS10.ge hi.in_)
      obtain ⟨A11, c11, rfl, hrd11⟩ := hz10.reads
      go_wp2_with fail
      (with_reducible refine (vals_same l _ _ n _ _ _ _ _ (HL.out) (by omega) hrd11 (HR.out.keepMod (Nat.le_refl _) y11) (Nat.le_refl _) y11.size).mono ?_)
      rintro e w12 ⟨rfl, hm12⟩
      have y12 : Mod nowhere w w12 := y11.call0 hm12
      have hS12 := hS11.keep0 hm12
      go_wp2_with fail
      (with_reducible refine (sys_swap_yes _ hS12 (j0 : Int) (2 * (j0 : Int) + 1) (2 * (n : Int) + 1) j0 (2 * n + 1) rfl (by omega) (by omega) (by omega)).mono ?_)
      rintro e w13 ⟨rfl, hS13, hm13⟩
      have y13 : Mod nowhere w w13 := y12.call hm13 fun i hi => .inr (hS12.ge hi.in_)
      go_wp2_with fail
      (with_reducible refine (sys_all_n _ hS13 l n hk (HL.out) (CU.out _)).mono ?_)
      rintro e w14 ⟨z13, rfl, hz13, hS14, hm14⟩
      have y14 : Mod nowhere w w14 := y13.call hm14 fun i hi => .inr (hS13.ge hi.in_)
      obtain ⟨A14, c14, rfl, hrd14⟩ := hz13.reads
      go_wp2_with fail
      (with_reducible refine (vals_same l _ _ n _ _ _ _ _ (HL.out) (by omega) hrd14 (HR.out.keepMod (Nat.le_refl _) y14) (Nat.le_refl _) y14.size).mono ?_)
      rintro e w15 ⟨rfl, hm15⟩
      have y15 : Mod nowhere w w15 := y14.call0 hm15
      have hS15 := hS14.keep0 hm15
      go_wp2_with fail
      (with_reducible refine (sys_turn _ hS15 (2 * (n : Int)) to d (by unfold I64; omega) (by rw [show (2 * (n : Int)) = ((2 * n : Nat) : Int) by omega]; exact hMd)).mono ?_)
      rintro e w16 ⟨rfl, hS16, hm16⟩
      have y16 : Mod nowhere w w16 := y15.call hm16 fun i hi => .inr (hS15.ge hi.in_)
      go_wp2_with fail
      (with_reducible refine (sys_all_n _ hS16 l n hk (HL.out) (CU.out _)).mono ?_)
      rintro e w17 ⟨z16, rfl, hz16, hS17, hm17⟩
      have y17 : Mod nowhere w w17 := y16.call hm17 fun i hi => .inr (hS16.ge hi.in_)
      obtain ⟨A17, c17, rfl, hrd17⟩ := hz16.reads
      go_wp2_with fail
      (with_reducible refine (vals_same l _ _ n _ _ _ _ _ (HL.out) (by omega) hrd17 (HR.out.keepMod (Nat.le_refl _) y17) (Nat.le_refl _) y17.size).mono ?_)
      rintro e w18 ⟨rfl, hm18⟩
      have y18 : Mod nowhere w w18 := y17.call0 hm18
      have hS18 := hS17.keep0 hm18
      go_wp2_with fail
      (with_reducible refine (sys_swap_no _ hS18 (j0 : Int) (2 * (j0 : Int) + 1) (2 * (n : Int) + 1) j0 rfl (by omega) (by rw [upd_same]; omega)).mono ?_)
      rintro e w19 ⟨rfl, hS19, hm19⟩
      have y19 : Mod nowhere w w19 := y18.call hm19 fun i hi => .inr (hS18.ge hi.in_)
      go_wp2
      go_ret
      exact ⟨rfl, y19⟩
end Go.Proofs.Ytelammmgcfmlbaa
