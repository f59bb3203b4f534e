/- Draw; the document's example of layer 13. -/
import Derived.Test.YtcfpgecchappoaaFloorC
namespace Go.Proofs.Ytcfpgecchappoaa
open Go.RowKit

def RowN (w : World) (q N : Nat) (G : Nat → Nat) : Prop := ∃ cs : Array Value, Blk w q 3 cs ∧ cs.size = N ∧ ∀ t, t < N → cs[t]? = some (.int .i64 (G t))
theorem RowN.cell {w : World} {q N : Nat} {G : Nat → Nat} (h : RowN w q N G) {t : Nat} (ht : t < N) : w.cell? ⟨q, t, none⟩ = some (.int .i64 (G t)) ∧ w.frozen? ⟨q, t, none⟩ = false ∧ q < w.heap.size := by
  obtain ⟨cs, hb, -, hc⟩ := h
  exact ⟨(hb.cell t).trans (hc t ht), hb.frozen t, hb.lt⟩
theorem RowN.keep {S : Nat → Prop} {w w' : World} {q N : Nat} {G : Nat → Nat} (h : RowN w q N G) (hm : Mod S w w') (hq : ¬ S q) : RowN w' q N G := by
  obtain ⟨cs, hb, hz, hc⟩ := h
  exact ⟨cs, hb.keep hm hq, hz, hc⟩
theorem RowN.set {w : World} {q N : Nat} {G : Nat → Nat} (h : RowN w q N G) {t : Nat} (v : Nat) (ht : t < N) : RowN (w.setCell ⟨q, t, none⟩ (.int .i64 v)) q N (upd G t v) := by
  obtain ⟨cs, hb, hz, hc⟩ := h
  refine ⟨_, hb.set_ t (.int .i64 v), by simp [hz], fun s hs => ?_⟩
  rw [Array.getElem?_setIfInBounds]
  by_cases e : t = s
  · subst e; rw [upd_same]; simp [hz, ht]
  · rw [if_neg e, upd_other _ _ (Ne.symm e)]; exact hc s hs
theorem RowN.zero {w : World} {q N : Nat} (h : Blk w q 3 (madeCells #[.int .i64 0] N)) : RowN w q N (fun _ => 0) := by
  refine ⟨_, h, by have := size_madeCells (#[.int .i64 0] : Array Value) N; simpa using this, fun t ht => ?_⟩
  have := toList_madeCells_one (.int .i64 0) N
  rw [← Array.getElem?_toList, this, List.getElem?_replicate, if_pos ht]
  rfl
abbrev FloorB (w : World) (p : Nat) (v0 v1 v2 v3 v4 : Value) (c0 c1 c2 c3 c4 c5 : Int) (T : Nat) (D R : Value) (tr : Value) : Prop := Blk w p 86 #[v0, v1, v2, v3, v4, .int .i64 c0, .int .i64 c1, .int .i64 c2, .int .i64 c3, .int .i64 c4, .int .i64 c5, .iface T (.agg #[]), D, R, tr]
theorem LocRow.form8 {w : World} {H : Nat} {A : Option Addr} {cap n : Nat} {l : List Int} (h : LocRow w H 5 1 (.slice A n cap) n (l.map (Value.int .u8))) (hn : 0 < n) (hl : l.length = n) : ∃ q, A = some ⟨q, 0, none⟩ ∧ H ≤ q ∧ q < w.heap.size ∧ ∀ i, i < n → w.cell? ⟨q, i, none⟩ = some (.int .u8 (l.getD i 0)) := by
  have hb := h.blk
  obtain ⟨A', cap', e, ho, hA⟩ := h
  injection e with e1 e2 e3
  subst e1 e3
  rcases hA with ⟨rfl, -, -⟩ | ⟨q, rfl, hq⟩
  · omega
  · obtain ⟨-, cur, hc⟩ := hb q rfl
    refine ⟨q, rfl, hq, hc.lt, fun i hi => ?_⟩
    rw [ho.cellAt i (by omega), List.getElem?_map, List.getElem?_eq_getElem (by omega)]
    simp [List.getD_eq_getElem?_getD, hl, hi]

set_option maxRecDepth 100000 in
set_option maxHeartbeats 4000000 in
theorem draw_yes (p rp n1 nd cc t H : Nat) (Ac : Option Addr) (v0 v1 v2 v3 v4 : Value) (c0 c1 c2 c3 c4 c5 : Int) (T : Nat) (tr : Value) (ld : List Int) (G : Nat → Nat) (w : World) (hp : FloorB w p v0 v1 v2 v3 v4 c0 c1 c2 c3 c4 c5 T (.slice Ac nd cc) (.slice (some ⟨rp, 0, none⟩) n1 n1) tr) (hd : LocRow w H 5 1 (.slice Ac nd cc) nd (ld.map (Value.int .u8))) (hl : ld.length = nd) (hr : RowN w rp n1 G) (ht : t < n1) (hnd : 0 < nd) (hnd2 : nd ≤ 1000) (hG : G t ≤ 100000) (hb : ∀ x ∈ ld, 0 ≤ x ∧ x ≤ 255) :
    Calls Try.prog 11 #[.pointer (some ⟨p, 0, none⟩), .int .i64 t] w fun e w' => e = .returned (.int .i64 (ld.getD (G t % nd) 0)) ∧ RowN w' rp n1 (upd G t (G t + 1)) ∧ Mod (· = rp) w w' := by
  obtain ⟨q, rfl, hq1, hq2, hqc⟩ := hd.form8 hnd hl
  obtain ⟨cR, fR, lR⟩ := hr.cell ht
  obtain ⟨j, hj⟩ : ∃ j, j = G t % nd := ⟨_, rfl⟩
  have hjn : j < nd := by rw [hj]; exact Nat.mod_lt _ hnd
  have hrem : ((G t : Nat) : Int) % (nd : Int) = (j : Int) := by rw [hj]; rfl
  have cD := hqc j hjn
  rw [← hj]
  have hx : ld.getD j 0 ∈ ld := by
    have : j < ld.length := by omega
    rw [List.getD_eq_getElem?_getD, List.getElem?_eq_getElem this]
    exact List.getElem_mem _
  have hbx := hb _ hx
  have HS := hide (hr.set (G t + 1) ht)
  generalize hgv : ld.getD j 0 = gv at cD hbx ⊢
  generalize hgt : G t = gt at *
  have ht' : (t : Int) < (n1 : Int) := by omega
  have hnd' : (0 : Int) < (nd : Int) := by omega
  have hnd0 : ((nd : Int) == 0) = false := by simp; omega
  clear hj hd hqc hr hx hgv hgt hb
  have c_hp := hp.cell; have f_hp := hp.frozen; have l_hp := hp.lt
  go_enter Try.func11, Try.ntmps11
  go_wp2
  go_region
  all_goals go_wp2
  all_goals go_ret
  all_goals exact ⟨rfl, HS.out, (by repeat (first | with_reducible exact Mod.refl _ _ | with_reducible assumption | with_reducible refine Mod.alloc ?_ _ | with_reducible refine Mod.drew ?_ | with_reducible refine Mod.drewN ?_ _ | with_reducible refine Mod.setCell ?_ (by first | exact .inl rfl | (left; (try unfold from_); show _ ≤ _; first | omega | (simp; done) | (simp; omega)) | (right; first | omega | (simp; done) | (simp; omega))) _ | with_reducible refine Mod.call0 ?_ (by with_reducible assumption) | with_reducible refine Mod.call ?_ (by with_reducible assumption) (by first | (rintro _ rfl; first | exact .inl rfl | (right; (first | omega | (simp; done) | (simp; omega)))) | (rintro _ (rfl | rfl) <;> (right; (first | omega | (simp; done) | (simp; omega)))))))⟩
set_option maxRecDepth 100000 in
set_option maxHeartbeats 4000000 in
theorem draw_no (p n1 nd cc : Nat) (t : Int) (Ac R : Option Addr) (v0 v1 v2 v3 v4 : Value) (c0 c1 c2 c3 c4 c5 : Int) (T : Nat) (tr : Value) (w : World) (hp : FloorB w p v0 v1 v2 v3 v4 c0 c1 c2 c3 c4 c5 T (.slice Ac nd cc) (.slice R n1 n1) tr) (h : t < 0 ∨ (n1 : Int) ≤ t ∨ nd = 0) :
    Calls Try.prog 11 #[.pointer (some ⟨p, 0, none⟩), .int .i64 t] w fun e w' => e = .returned (.int .i64 0) ∧ Mod nowhere w w' := by
  have c_hp := hp.cell; have f_hp := hp.frozen; have l_hp := hp.lt
  have hd : t < 0 ∨ (0 ≤ t ∧ (n1 : Int) ≤ t) ∨ (0 ≤ t ∧ t < (n1 : Int) ∧ nd = 0) := by omega
  clear h
  rcases hd with h | ⟨h, h2⟩ | ⟨h, h2, rfl⟩
  all_goals
    go_enter Try.func11, Try.ntmps11
    go_wp2
    go_ret
    exact ⟨rfl, (by repeat (first | with_reducible exact Mod.refl _ _ | with_reducible assumption | with_reducible refine Mod.alloc ?_ _ | with_reducible refine Mod.drew ?_ | with_reducible refine Mod.drewN ?_ _ | with_reducible refine Mod.setCell ?_ (by first | exact .inl rfl | (left; (try unfold from_); show _ ≤ _; first | omega | (simp; done) | (simp; omega)) | (right; first | omega | (simp; done) | (simp; omega))) _ | with_reducible refine Mod.call0 ?_ (by with_reducible assumption) | with_reducible refine Mod.call ?_ (by with_reducible assumption) (by first | (rintro _ rfl; first | exact .inl rfl | (right; (first | omega | (simp; done) | (simp; omega)))) | (rintro _ (rfl | rfl) <;> (right; (first | omega | (simp; done) | (simp; omega)))))))⟩
theorem draw_nil (t : Int) (w : World) :
    Calls Try.prog 11 #[.pointer none, .int .i64 t] w fun e w' => e = .returned (.int .i64 0) ∧ Mod nowhere w w' := by
  go_enter Try.func11, Try.ntmps11
  go_wp2
  go_ret
  exact ⟨rfl, (by repeat (first | with_reducible exact Mod.refl _ _ | with_reducible assumption | with_reducible refine Mod.alloc ?_ _ | with_reducible refine Mod.drew ?_ | with_reducible refine Mod.drewN ?_ _ | with_reducible refine Mod.setCell ?_ (by first | exact .inl rfl | (left; (try unfold from_); show _ ≤ _; first | omega | (simp; done) | (simp; omega)) | (right; first | omega | (simp; done) | (simp; omega))) _ | with_reducible refine Mod.call0 ?_ (by with_reducible assumption) | with_reducible refine Mod.call ?_ (by with_reducible assumption) (by first | (rintro _ rfl; first | exact .inl rfl | (right; (first | omega | (simp; done) | (simp; omega)))) | (rintro _ (rfl | rfl) <;> (right; (first | omega | (simp; done) | (simp; omega)))))))⟩
theorem plain_calls (n : Int) (w : World) :
    Calls Try.prog 10 #[.int .i64 n] w fun e w' => e = .returned (.agg #[.int .i64 2, .int .i64 n, .int .i64 100, .int .i64 9, .int .i64 4, .int .i64 3]) ∧ Mod nowhere w w' := by
  go_enter Try.func10, Try.ntmps10
  go_wp2
  exact bodyPost_ret (v := .agg #[.int .i64 2, .int .i64 n, .int .i64 100, .int .i64 9, .int .i64 4, .int .i64 3]) (by simp [results, Try.results10, go_sem, *]) rfl ⟨rfl, (by repeat (first | with_reducible exact Mod.refl _ _ | with_reducible assumption | with_reducible refine Mod.alloc ?_ _ | with_reducible refine Mod.drew ?_ | with_reducible refine Mod.drewN ?_ _ | with_reducible refine Mod.setCell ?_ (by first | exact .inl rfl | (left; (try unfold from_); show _ ≤ _; first | omega | (simp; done) | (simp; omega)) | (right; first | omega | (simp; done) | (simp; omega))) _ | with_reducible refine Mod.call0 ?_ (by with_reducible assumption) | with_reducible refine Mod.call ?_ (by with_reducible assumption) (by first | (rintro _ rfl; first | exact .inl rfl | (right; (first | omega | (simp; done) | (simp; omega)))) | (rintro _ (rfl | rfl) <;> (right; (first | omega | (simp; done) | (simp; omega)))))))⟩
theorem reads_b2 (w : World) (a b : Int) : Reads (w.alloc (.cells #[.int .u8 a, .int .u8 b] 5)) (w.heap.size + 1) 1 (some ⟨w.heap.size, 0, none⟩) 2 ([a, b].map (Value.int .u8)) := by
  refine ⟨rfl, fun _ => ⟨_, rfl, Nat.lt_succ_self _, fun j u hu => ?_⟩⟩
  exact World.news_of_block (B := w.heap.size) (cs := #[.int .u8 a, .int .u8 b]) (t := 5) (fr := (0, 0)) (Blk.new _ _ _) j u (by simpa using hu)
theorem fnew_callsZ (l ld : List Int) (b o cap n : Nat) (D : Option Addr) (nd cd : Nat) (c1 T : Nat) (nx c1x c2 c3 c4 c5 : Int) (w : World) (hnx : nx = n) (hc1 : c1x = c1) (hT : mgrT c4 = some T) (hl : l.length = n) (hc : CfgOk nx c1x c2 c3 c4 c5) (h2 : 2 * nx ≤ c2) (hb : b < w.heap.size) (hx : ∀ k x, l[k]? = some x → w.cell? ⟨b, o + k, none⟩ = some (.int .i64 x)) (hd : Reads w w.heap.size 1 D nd (ld.map (Value.int .u8))) (hld : ld.length = nd) (hnd : nd ≤ 1000) :
    Calls Try.prog 9 #[.agg #[.int .i64 nx, .int .i64 c1x, .int .i64 c2, .int .i64 c3, .int .i64 c4, .int .i64 c5], .slice (some ⟨b, o, none⟩) n cap, .slice D nd cd] w fun e w' => ∃ p, e = .returned (.tuple #[.pointer (some ⟨p, 0, none⟩), .int .i64 0]) ∧ FloorNew w w' n c1 nd c2 c3 c4 c5 T l ld p := by
  subst hnx hc1
  exact fnew_calls l ld b o cap n D nd cd c1 T c2 c3 c4 c5 w hT hl hc h2 hb hx hd hld hnd
theorem draw_yesZ (p rp n1 nd cc t H : Nat) (tx x : Int) (Ac : Option Addr) (v0 v1 v2 v3 v4 : Value) (c0 c1 c2 c3 c4 c5 : Int) (T : Nat) (tr : Value) (ld : List Int) (G : Nat → Nat) (w : World) (htx : tx = t) (hp : FloorB w p v0 v1 v2 v3 v4 c0 c1 c2 c3 c4 c5 T (.slice Ac nd cc) (.slice (some ⟨rp, 0, none⟩) n1 n1) tr) (hd : LocRow w H 5 1 (.slice Ac nd cc) nd (ld.map (Value.int .u8))) (hl : ld.length = nd) (hr : RowN w rp n1 G) (ht : t < n1) (hnd : 0 < nd) (hnd2 : nd ≤ 1000) (hG : G t ≤ 100000) (hb : ∀ x ∈ ld, 0 ≤ x ∧ x ≤ 255) (hx : ld.getD (G t % nd) 0 = x) :
    Calls Try.prog 11 #[.pointer (some ⟨p, 0, none⟩), .int .i64 tx] w fun e w' => e = .returned (.int .i64 x) ∧ RowN w' rp n1 (upd G t (G t + 1)) ∧ Mod (· = rp) w w' := by
  subst htx hx
  exact draw_yes p rp n1 nd cc t H Ac v0 v1 v2 v3 v4 c0 c1 c2 c3 c4 c5 T tr ld G w hp hd hl hr ht hnd hnd2 hG hb
set_option maxRecDepth 100000 in
set_option maxHeartbeats 4000000 in
theorem alive13_calls (w : World) :
    Calls Try.prog 8 #[] w fun en w' => en = .returned (.bool true) ∧ Mod nowhere w w' := by
  go_enter Try.func8, Try.ntmps8
  go_wp2_with fail
  (with_reducible refine (plain_calls 2 _).mono ?_)
  rintro e w1 ⟨rfl, hm1⟩
  go_wp2_with fail
  obtain ⟨W, hW⟩ : ∃ W, W = (w1.alloc (.cells #[.int .i64 1, .int .i64 2] 2)).alloc (.cells #[.int .u8 7, .int .u8 9] 5) := ⟨_, rfl⟩
  have hmW : Mod nowhere w W := by rw [hW]; exact (hm1.alloc _).alloc _
  have hbs : Blk W w1.heap.size 2 #[.int .i64 1, .int .i64 2] := by rw [hW]; exact Blk.alloc (Blk.new _ _ _) _
  have hds : Reads W W.heap.size 1 (some ⟨w1.heap.size + 1, 0, none⟩) 2 ([7, 9].map (Value.int .u8)) := by
    have := reads_b2 (w1.alloc (.cells #[.int .i64 1, .int .i64 2] 2)) 7 9
    rw [hW]
    simpa using this
  rw [← hW]
  clear hW
  (with_reducible refine (fnew_callsZ [1, 2] [7, 9] w1.heap.size 0 2 2 (some ⟨w1.heap.size + 1, 0, none⟩) 2 2 2 136 2 2 100 9 4 3 W rfl rfl rfl rfl (by unfold CfgOk; omega) (by omega) hbs.lt (fun k x hk => ?_) hds rfl (by omega)).mono ?_)
  · rcases k with _ | _ | k
    · simp at hk; subst hk; exact hbs.cell 0
    · simp at hk; subst hk; exact hbs.cell 1
    · simp at hk
  rintro e w2 ⟨p, rfl, K, r, tk, g, gw, gp, rp, cc, Ac, cs, hp2, -, -, -, -, -, -, hdv2, hrp2, lts, hm2⟩
  have y2 : Mod nowhere w w2 := hmW.call0 hm2
  have zW := hmW.size
  have hR2 := RowN.zero hrp2
  have npr : p ≠ rp := Blk.ne_ hp2 hrp2 (by decide)
  clear hrp2 hds hbs hm2
  go_wp2_with fail
  (with_reducible refine (draw_yesZ p rp 2 2 cc 0 W.heap.size 0 7 Ac _ _ _ _ _ _ _ _ _ _ _ _ _ [7, 9] _ w2 rfl hp2 hdv2 rfl hR2 (by omega) (by omega) (by omega) (by decide) (by decide) (by decide)).mono ?_)
  rintro e w3 ⟨rfl, hR3, hm3⟩
  have hp3 := Blk.keep hp2 hm3 npr
  have hdv3 := hdv2.far hm3 (fun b hb e => by obtain ⟨-, cur, hc⟩ := hdv2.blk b hb; obtain ⟨cs9, hb9, -⟩ := hR2; exact Blk.ne_ hc hb9 (by decide) e)
  have y3 : Mod nowhere w w3 := y2.call hm3 (fun i e => .inr (by omega))
  go_wp2_with fail
  (with_reducible refine (draw_yesZ p rp 2 2 cc 1 W.heap.size 1 7 Ac _ _ _ _ _ _ _ _ _ _ _ _ _ [7, 9] _ w3 rfl hp3 hdv3 rfl hR3 (by omega) (by omega) (by omega) (by decide) (by decide) (by decide)).mono ?_)
  rintro e w4 ⟨rfl, hR4, hm4⟩
  have hp4 := Blk.keep hp3 hm4 npr
  have hdv4 := hdv3.far hm4 (fun b hb e => by obtain ⟨-, cur, hc⟩ := hdv3.blk b hb; obtain ⟨cs9, hb9, -⟩ := hR3; exact Blk.ne_ hc hb9 (by decide) e)
  have y4 : Mod nowhere w w4 := y3.call hm4 (fun i e => .inr (by omega))
  go_wp2_with fail
  (with_reducible refine (draw_yesZ p rp 2 2 cc 0 W.heap.size 0 9 Ac _ _ _ _ _ _ _ _ _ _ _ _ _ [7, 9] _ w4 rfl hp4 hdv4 rfl hR4 (by omega) (by omega) (by omega) (by decide) (by decide) (by decide)).mono ?_)
  rintro e w5 ⟨rfl, hR5, hm5⟩
  have hp5 := Blk.keep hp4 hm5 npr
  have hdv5 := hdv4.far hm5 (fun b hb e => by obtain ⟨-, cur, hc⟩ := hdv4.blk b hb; obtain ⟨cs9, hb9, -⟩ := hR4; exact Blk.ne_ hc hb9 (by decide) e)
  have y5 : Mod nowhere w w5 := y4.call hm5 (fun i e => .inr (by omega))
  go_wp2_with fail
  (with_reducible refine (draw_yesZ p rp 2 2 cc 0 W.heap.size 0 7 Ac _ _ _ _ _ _ _ _ _ _ _ _ _ [7, 9] _ w5 rfl hp5 hdv5 rfl hR5 (by omega) (by omega) (by omega) (by decide) (by decide) (by decide)).mono ?_)
  rintro e w6 ⟨rfl, hR6, hm6⟩
  have hp6 := Blk.keep hp5 hm6 npr
  have hdv6 := hdv5.far hm6 (fun b hb e => by obtain ⟨-, cur, hc⟩ := hdv5.blk b hb; obtain ⟨cs9, hb9, -⟩ := hR5; exact Blk.ne_ hc hb9 (by decide) e)
  have y6 : Mod nowhere w w6 := y5.call hm6 (fun i e => .inr (by omega))
  go_wp2
  go_ret
  exact ⟨rfl, y6⟩
end Go.Proofs.Ytcfpgecchappoaa
