/- The document's records: Current, All. -/
import Derived.Test.YtanmibdnnjfpbaaActB
namespace Go.Proofs.Ytanmibdnnjfpbaa
open Go.RowKit

/-- The document's records: a list of cs, the numbers v of the locators, the statuses st. -/
structure Ref (w : World) (g rl ra m ca k : Nat) (n : Int) (N : Nat) (cs : List Value) (v : Nat → Nat) (nm : Nat) (st : Int → Int) : Prop where
  lst : RecL w g rl N n (.slice (some ⟨ra, 0, none⟩) k ca) (.map (some m)) cs
  row : RowV w ra k ca v
  map : IsZMap w m nm st
  pos : 0 < N
def InR (g rl ra m b : Nat) : Prop := b = g ∨ b = rl ∨ b = ra ∨ b = m
section
variable {w w' : World} {g rl ra m ca k N nm : Nat} {n : Int} {cs : List Value} {v : Nat → Nat} {st : Int → Int}
theorem RowV.keep {S : Nat → Prop} (h : RowV w ra k ca v) (hm : Mod S w w') (hS : ¬ S ra) : RowV w' ra k ca v := by
  obtain ⟨cur, hb, hc⟩ := h
  exact ⟨cur, hb.keep hm hS, hc⟩
theorem RowV.lt (h : RowV w ra k ca v) : ra < w.heap.size := h.elim fun _ h => h.1.lt
theorem RowV.cell (h : RowV w ra k ca v) {i : Nat} (hi : i < k) : w.cell? ⟨ra, i, none⟩ = some (.int .i64 (v i)) ∧ w.frozen? ⟨ra, i, none⟩ = false := by
  obtain ⟨cur, hb, -, -, -, hc⟩ := h
  exact ⟨(hb.cell i).trans (hc i hi), hb.frozen i⟩
theorem RowV.set (h : RowV w ra k ca v) {i : Nat} (x : Nat) (hi : i < k) : RowV (w.setCell ⟨ra, i, none⟩ (.int .i64 x)) ra k ca (upd v i x) := by
  obtain ⟨cur, hb, h1, h2, h3, hc⟩ := h
  refine ⟨_, hb.set_ i (.int .i64 x), h1, h2, by simpa using h3, fun j hj => ?_⟩
  rw [Array.getElem?_setIfInBounds]
  by_cases e : i = j
  · subst e
    rw [upd_same]
    simp
    omega
  · rw [if_neg e, upd_other _ _ (Ne.symm e)]
    exact hc j hj
theorem Ref.keep {S : Nat → Prop} (h : Ref w g rl ra m ca k n N cs v nm st) (hm : Mod S w w') (hS : ∀ b, InR g rl ra m b → ¬ S b) : Ref w' g rl ra m ca k n N cs v nm st :=
  ⟨Own.keep h.lst hm (hS _ (.inl rfl)) (hS _ (.inr (.inl rfl))), h.row.keep hm (hS _ (.inr (.inr (.inl rfl)))), h.map.keep hm (hS _ (.inr (.inr (.inr rfl)))), h.pos⟩
theorem Ref.keep0 (h : Ref w g rl ra m ca k n N cs v nm st) (hm : Mod nowhere w w') : Ref w' g rl ra m ca k n N cs v nm st := h.keep hm fun _ _ x => x
theorem Ref.open_ (h : Ref w g rl ra m ca k n N cs v nm st) : ∃ cap, Blk w g 37 #[.int .i64 n, .slice (some ⟨rl, 0, none⟩) N cap, .slice (some ⟨ra, 0, none⟩) k ca, .map (some m)] ∧ (∀ i, i < N * 9 → w.cell? ⟨rl, i, none⟩ = cs[i]?) ∧ rl ≠ g := by
  obtain ⟨cap, hb, hc⟩ := h.lst.cells h.pos
  refine ⟨cap, hb, hc, ?_⟩
  obtain ⟨A, cap, -, -, h2⟩ := h.lst.open_
  rcases h2 with ⟨e, -⟩ | ⟨-, e⟩
  · have := h.pos
    omega
  · exact e
theorem Ref.ne (h : Ref w g rl ra m ca k n N cs v nm st) : rl ≠ g ∧ ra ≠ g ∧ ra ≠ rl ∧ m ≠ g ∧ m ≠ rl ∧ m ≠ ra := by
  obtain ⟨cap, hb, -, hne⟩ := h.open_
  obtain ⟨cur, hr⟩ := Own.rowBlk h.lst hne
  obtain ⟨c2, ha, -⟩ := h.row
  exact ⟨hne, Blk.ne_ ha hb (by decide), Blk.ne_ ha hr (by decide), h.map.ne_blk hb, h.map.ne_blk hr, h.map.ne_blk ha⟩
theorem Ref.lt (h : Ref w g rl ra m ca k n N cs v nm st) : g < w.heap.size ∧ rl < w.heap.size ∧ ra < w.heap.size ∧ m < w.heap.size :=
  ⟨h.lst.lt.1, h.lst.lt.2, h.row.lt, h.map.lt⟩
/-- A record was put. -/
theorem Ref.put {cs' : List Value} (h : Ref w g rl ra m ca k n N cs v nm st) (hp : PutRecL w w' g rl (N + 1) n (.slice (some ⟨ra, 0, none⟩) k ca) (.map (some m)) cs') (hm : Mod (two g rl) w w') :
    ∃ rl', (rl' = rl ∨ w.heap.size ≤ rl') ∧ Ref w' g rl' ra m ca k n (N + 1) cs' v nm st := by
  obtain ⟨r', hr', -, hL⟩ := hp
  have e := h.ne
  exact ⟨r', hr', hL, h.row.keep hm (not_two (by omega) (by omega)), h.map.keep hm (not_two (by omega) (by omega)), Nat.succ_pos _⟩
theorem Ref.setSt {nm' : Nat} {st' : Int → Int} (h : Ref w g rl ra m ca k n N cs v nm st) (hz : IsZMap w' m nm' st') (hm : Mod (· = m) w w') : Ref w' g rl ra m ca k n N cs v nm' st' := by
  have e := h.ne
  exact ⟨Own.keep h.lst hm (by omega) (by omega), h.row.keep hm (by omega), hz, h.pos⟩
theorem Ref.setAt (h : Ref w g rl ra m ca k n N cs v nm st) {i : Nat} (x : Nat) (hi : i < k) : Ref (w.setCell ⟨ra, i, none⟩ (.int .i64 x)) g rl ra m ca k n N cs (upd v i x) nm st := by
  have e := h.ne
  have hm : Mod (· = ra) w (w.setCell ⟨ra, i, none⟩ (.int .i64 x)) := Mod.setCell (S := (· = ra)) (Mod.refl _ _) (.inl rfl) _
  exact ⟨Own.keep h.lst hm (by omega) (by omega), h.row.set x hi, h.map.keep hm (by omega), h.pos⟩
set_option maxRecDepth 100000 in
set_option maxHeartbeats 4000000 in
theorem rcur_calls (w : World) (h : Ref w g rl ra m ca k n N cs v nm st) (ix : Int) (i : Nat) (hix : ix = i) (hi : i < k) (own old new : Int) (y : Nat) (hv : v i < N) (hr : Rec9 cs (v i) 2 0 own old new 0 0 0 0) (ho : I64 own) (hy : (if own = -1 ∨ st own = 2 then new else old) = (y : Int)) :
    Calls Try.prog 30 #[.pointer (some ⟨g, 0, none⟩), .int .i64 ix] w fun e w' => e = .returned (.int .i64 y) ∧ Mod nowhere w w' := by
  subst hix
  obtain ⟨cap, hb, hc, hne⟩ := h.open_
  obtain ⟨ca1, -⟩ := h.row.cell hi
  have HM := hide h.map
  have hlt := h.lt
  generalize v i = p at *
  have d0 := (hc (p * 9) (by omega)).trans hr.h0
  have d1 := (hc (p * 9 + 1) (by omega)).trans hr.h1
  have d2 := (hc (p * 9 + 2) (by omega)).trans hr.h2
  have d3 := (hc (p * 9 + 3) (by omega)).trans hr.h3
  have d4 := (hc (p * 9 + 4) (by omega)).trans hr.h4
  have d5 := (hc (p * 9 + 5) (by omega)).trans hr.h5
  have d6 := (hc (p * 9 + 6) (by omega)).trans hr.h6
  have d7 := (hc (p * 9 + 7) (by omega)).trans hr.h7
  have d8 := (hc (p * 9 + 8) (by omega)).trans hr.h8
  have hi' : (i : Int) < (k : Int) := by omega
  have hp' : (p : Int) < (N : Int) := by omega
  have HY := hide hy
  have HO := hide ho
  clear hc hr h hy ho
  have c_hb := hb.cell; have f_hb := hb.frozen; have l_hb := hb.lt
  go_enter Try.func30, Try.ntmps30
  go_wp2
  go_region
  all_goals go_wp2_with fail
  obtain ⟨W, hW⟩ : ∃ W, W = (w.alloc (.cells #[.int .i64 2, .int .i64 0, .int .i64 own, .int .i64 old, .int .i64 new, .int .i64 0, .int .i64 0, .int .i64 0, .int .i64 0] 45)).drew := ⟨_, rfl⟩
  have yW : Mod nowhere w W := by rw [hW]; exact ((Mod.refl _ _).alloc _).drew
  have hl : Blk W w.heap.size 45 #[.int .i64 2, .int .i64 0, .int .i64 own, .int .i64 old, .int .i64 new, .int .i64 0, .int .i64 0, .int .i64 0, .int .i64 0] := by rw [hW]; exact Blk.drew (Blk.new _ _ _)
  have hb2 := hb.keep0 yW
  have hlk : (Instr.lookup 33 (.map (some m)) (.int .i64 own) false).run Try.prog W.drew = .ok (.int .i64 (st own)) W.drew := (HM.out.keep0 (Mod.drew yW)).look own HO.out
  have hres : ∀ W', Calls Try.prog 39 #[.agg #[.int .i64 2, .int .i64 0, .int .i64 own, .int .i64 old, .int .i64 new, .int .i64 0, .int .i64 0, .int .i64 0, .int .i64 0], .int .i64 (st own)] W' fun e w' => e = .returned (.int .i64 y) ∧ Mod nowhere W' w' := fun W' => (rres_calls 2 0 own old new 0 0 0 0 (st own) W').mono (by rintro e w' ⟨rfl, hm⟩; rw [if_pos rfl, HY.out]; exact ⟨rfl, hm⟩)
  rw [← hW]
  clear hW c_hb f_hb l_hb d0 d1 d2 d3 d4 d5 d6 d7 d8 ca1 hb
  generalize st own = so at *
  have c_hl := hl.cell; have f_hl := hl.frozen; have l_hl := hl.lt; have c_hb2 := hb2.cell; have f_hb2 := hb2.frozen; have l_hb2 := hb2.lt
  go_region_law (go_simp; (go_at_call 39; (with_reducible refine (hres _).mono ?_); rintro e w8 ⟨rfl, hbw8⟩; have hzw8 := hbw8.size; (try simp at hzw8); (try (have ltw80 : w.heap.size < w8.heap.size := (by omega); have lcw80 := fun o => hbw8.cell (b := w.heap.size) o (by first | omega | (simp; done) | (simp; omega)) (id); have lfw80 := fun o => hbw8.frozen (b := w.heap.size) o (by first | omega | (simp; done) | (simp; omega)) (id))); skip))
  all_goals go_wp2
  all_goals go_ret
  all_goals exact ⟨rfl, (by repeat (first | with_reducible exact Mod.refl _ _ | with_reducible assumption | with_reducible refine Mod.alloc ?_ _ | with_reducible refine Mod.drew ?_ | with_reducible refine Mod.drewN ?_ _ | with_reducible refine Mod.setCell ?_ (by first | exact .inl rfl | (left; (try unfold from_); show _ ≤ _; first | omega | (simp; done) | (simp; omega)) | (right; first | omega | (simp; done) | (simp; omega))) _ | with_reducible refine Mod.call0 ?_ (by with_reducible assumption) | with_reducible refine Mod.call ?_ (by with_reducible assumption) (by first | (rintro _ rfl; first | exact .inl rfl | (right; (first | omega | (simp; done) | (simp; omega)))) | (rintro _ (rfl | rfl) <;> (right; (first | omega | (simp; done) | (simp; omega)))))))⟩
set_option maxRecDepth 100000 in
set_option maxHeartbeats 4000000 in
theorem rall_calls (w : World) (h : Ref w g rl ra m ca k n N cs v nm st) (hk8 : k ≤ 8) (l : List Int) (hl : l.length = k) (hc : ∀ i x, l[i]? = some x → Cur cs N st (v i) x) :
    Calls Try.prog 17 #[.pointer (some ⟨g, 0, none⟩)] w fun e w' => ∃ z, e = .returned z ∧ LocRow w' w.heap.size 2 1 z k (l.map (Value.int .i64)) ∧ Mod nowhere w w' := by
  have HC := hide hc
  have HL := hide hl
  have HH := hide h
  have lts := h.lt
  clear hc hl h
  go_enter Try.func17, Try.ntmps17
  go_wp2_with fail
  go_loopw [3, 4] (fun s3 s4 wx => ∃ (j : Nat), s4 = .int .i64 j ∧ j ≤ k ∧ LocRow wx w.heap.size 2 1 s3 j ((l.take j).map (Value.int .i64)) ∧ Mod nowhere w wx)
    (fun _ s4 _ => (300 - (intOf s4)).toNat)
  case atStart => exact ⟨0, rfl, Nat.zero_le _, LocRow.nil _ _ _ _, Mod.refl _ _⟩
  case round =>
    obtain ⟨j, rfl, hj, hL, hmr⟩ := hrel
    have hsz := hmr.size
    have hR := HH.out.keep0 hmr
    obtain ⟨cap, hb, hcl, -⟩ := hR.open_
    have HR := hide hR
    have HCL := hide hcl
    clear hR hcl
    have c_hb := hb.cell; have f_hb := hb.frozen; have l_hb := hb.lt
    by_cases hlt : j < k
    · have hlt' : (j : Int) < (k : Int) := by omega
      have hx' : l[j]? = some (l[j]'(by have := HL.out; omega)) := List.getElem?_eq_getElem (by have := HL.out; omega)
      generalize l[j]'(by have := HL.out; omega) = x at hx'
      have htk : (l.take (j + 1)).map (Value.int .i64) = (l.take j).map (Value.int .i64) ++ [.int .i64 x] := by rw [List.take_add_one, hx']; simp
      obtain ⟨own, old, new, y, c1, c2, c3, c4, c5, c6⟩ := HC.out j x hx'
      have cy := (HCL.out (y * 9 + 1) (by omega)).trans c6.h1
      have HCU := hide (fun (W : World) (hW : Mod nowhere wr W) => rcur_calls W (HR.out.keep0 hW) (j : Int) j rfl hlt own old new y c1 c2 c3 c4)
      have hy' : (y : Int) < (N : Int) := by omega
      have HK := hide htk
      obtain ⟨A, capA, rfl, ho, hA⟩ := hL
      have HA := hide hA
      have HO := hide ho
      obtain ⟨i0, hi, hz0, hz1, hz2⟩ := info_parts ainfo_i64
      clear hx' htk c1 c2 c3 c4 c6 hA ho
      go_wp2_with fail
      go_region_law (first
        | (go_simp; go_at_call 30; (with_reducible refine (HCU.out _ (by repeat (first | with_reducible exact Mod.refl _ _ | with_reducible assumption | with_reducible refine Mod.alloc ?_ _ | with_reducible refine Mod.drew ?_ | with_reducible refine Mod.drewN ?_ _ | with_reducible refine Mod.setCell ?_ (by first | exact .inl rfl | (left; (try unfold from_); show _ ≤ _; first | omega | (simp; done) | (simp; omega)) | (right; first | omega | (simp; done) | (simp; omega))) _ | with_reducible refine Mod.call0 ?_ (by with_reducible assumption) | with_reducible refine Mod.call ?_ (by with_reducible assumption) (by first | (rintro _ rfl; first | exact .inl rfl | (right; (first | omega | (simp; done) | (simp; omega)))) | (rintro _ (rfl | rfl) <;> (right; (first | omega | (simp; done) | (simp; omega)))))))).mono ?_); rintro e w8 ⟨rfl, hb8⟩; have hz8 := hb8.size; (try simp at hz8); (try (have ltw80 : g < w8.heap.size := (by omega); have lcw80 := fun o => hb8.cell (b := g) o (by first | omega | (simp; done) | (simp; omega)) (id); have lfw80 := fun o => hb8.frozen (b := g) o (by first | omega | (simp; done) | (simp; omega)) (id))); (try (have ltw81 : rl < w8.heap.size := (by omega); have lcw81 := fun o => hb8.cell (b := rl) o (by first | omega | (simp; done) | (simp; omega)) (id); have lfw81 := fun o => hb8.frozen (b := rl) o (by first | omega | (simp; done) | (simp; omega)) (id))))
        | ((refine step_append_lies _ (by rfl) _ _ _ (by rfl) 0 2 i0 (.int .i64 0) 1 8 Try.underlying22 hi hz0 hz1 hz2 (by rfl) (by omega) _ j ((l.take j).map (Value.int .i64)) (by rfl) (owns_keep0 HO.out ((by repeat (first | with_reducible exact Mod.refl _ _ | with_reducible assumption | with_reducible refine Mod.alloc ?_ _ | with_reducible refine Mod.drew ?_ | with_reducible refine Mod.drewN ?_ _ | with_reducible refine Mod.setCell ?_ (by first | exact .inl rfl | (left; (try unfold from_); show _ ≤ _; first | omega | (simp; done) | (simp; omega)) | (right; first | omega | (simp; done) | (simp; omega))) _ | with_reducible refine Mod.call0 ?_ (by with_reducible assumption) | with_reducible refine Mod.call ?_ (by with_reducible assumption) (by first | (rintro _ rfl; first | exact .inl rfl | (right; (first | omega | (simp; done) | (simp; omega)))) | (rintro _ (rfl | rfl) <;> (right; (first | omega | (simp; done) | (simp; omega))))))) : Mod nowhere wr _)) ⟨w8.heap.size, 0, none⟩ 1 1 [.int .i64 x] (by rfl) (by rfl) (World.news_of_block (B := w8.heap.size) (cs := #[.int .i64 x]) (t := 2) (fr := (0, 0)) (by show Blk _ _ _ _; exact (by repeat (first | with_reducible assumption | with_reducible apply Blk.new | with_reducible exact Blk.newAt (by first | rfl | (simp; done) | (simp; omega)) | with_reducible apply Blk.alloc | with_reducible apply Blk.drew | with_reducible apply Blk.drewN | with_reducible apply Blk.keep0 (hm := by with_reducible assumption) | with_reducible apply Blk.keep (hm := by with_reducible assumption) (hg := by first | omega | exact not_two (by omega) (by omega)) | with_reducible apply Blk.far (hp := by first | omega | (simp; done) | (simp; omega)) | with_reducible apply Blk.set1 | rfl)))) (by simp [Value.oneCell']) (by omega) (by unfold maxLen; omega) (by omega) (Nat.zero_le _) (w8.heap.size + 1) (by simp) ?_); intro q1 cap1 w1 hown hgrow hat hlt2))
      all_goals
        go_wp2
        have hq : w.heap.size ≤ q1 ∧ ∀ b, some b = (Value.slice A j capA).ownBlock → w.heap.size ≤ b := by
          rcases HA.out with ⟨rfl, rfl, rfl⟩ | ⟨q2, rfl, hq2⟩
          · exact ⟨by rcases hat with hh | hh <;> first | omega | (simp [Value.ownBlock] at hh), fun b hb => by simp [Value.ownBlock] at hb⟩
          · simp only [Value.ownBlock, Option.some.injEq] at hat ⊢
            exact ⟨by rcases hat with hh | hh <;> omega, fun b hb => by omega⟩
        have m1 := Mod.of_grown hgrow
        have m8 : Mod nowhere w w8 := (Mod.drew hmr).call0 hb8
        refine ⟨⟨j + 1, by go_num, by omega, ⟨_, _, rfl, by rw [HK.out]; exact hown, .inr ⟨q1, rfl, hq.1⟩⟩, (m8.alloc _).call m1 (fun b e => .inr (hq.2 b e))⟩, ?_⟩
        simp [intOf] <;> omega
    · obtain rfl : j = k := by omega
      have htk : l.take j = l := List.take_of_length_le (Nat.le_of_eq HL.out)
      rw [htk] at hL
      go_wp2
      go_ret
      exact ⟨_, rfl, hL, (by repeat (first | with_reducible exact Mod.refl _ _ | with_reducible assumption | with_reducible refine Mod.alloc ?_ _ | with_reducible refine Mod.drew ?_ | with_reducible refine Mod.drewN ?_ _ | with_reducible refine Mod.setCell ?_ (by first | exact .inl rfl | (left; (try unfold from_); show _ ≤ _; first | omega | (simp; done) | (simp; omega)) | (right; first | omega | (simp; done) | (simp; omega))) _ | with_reducible refine Mod.call0 ?_ (by with_reducible assumption) | with_reducible refine Mod.call ?_ (by with_reducible assumption) (by first | (rintro _ rfl; first | exact .inl rfl | (right; (first | omega | (simp; done) | (simp; omega)))) | (rintro _ (rfl | rfl) <;> (right; (first | omega | (simp; done) | (simp; omega)))))))⟩
end
end Go.Proofs.Ytanmibdnnjfpbaa
