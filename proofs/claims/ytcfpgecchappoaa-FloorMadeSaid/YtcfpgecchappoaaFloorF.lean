/- The law FloorDraws, walked. -/
import Derived.Test.YtcfpgecchappoaaFloorE
namespace Go.Proofs.Ytcfpgecchappoaa
open Go.RowKit

theorem reads_cellK {k : IntKind} {w w' : World} {B n i : Nat} {A : Option Addr} {pt : List Int} (h : Reads w B 1 A n (pt.map (Value.int k))) (hB : B ≤ w.heap.size) (hm : Mod (from_ w.heap.size) w w') (hk : i < n) :
    ∃ b o, A = some ⟨b, o, none⟩ ∧ b < w.heap.size ∧ w'.cell? ⟨b, o + i, none⟩ = some (.int k (pt.getD i 0)) := by
  obtain ⟨b, o, rfl, hb, hc⟩ := h.form (by omega) (by omega)
  have hl : pt.length = n := by have := h.1; simpa using this
  refine ⟨b, o, rfl, by omega, (hm.cell (o + i) (by omega) (by unfold from_; omega)).trans (hc i _ ?_)⟩
  rw [List.getElem?_map, List.getElem?_eq_getElem (by omega)]
  simp [List.getD_eq_getElem?_getD, hl, hk]
/-- Three whole numbers. -/
def Three (w : World) (q : Nat) (G : Nat → Nat) : Prop := ∃ cs : Array Value, Blk w q 32 cs ∧ cs.size = 3 ∧ ∀ t, t < 3 → cs[t]? = some (.int .i64 (G t))
theorem Three.cell {w : World} {q : Nat} {G : Nat → Nat} (h : Three w q G) {t : Nat} (ht : t < 3) : w.cell? ⟨q, t, none⟩ = some (.int .i64 (G t)) ∧ w.frozen? ⟨q, t, none⟩ = false ∧ q < w.heap.size := by
  obtain ⟨cs, hb, -, hc⟩ := h
  exact ⟨(hb.cell t).trans (hc t ht), hb.frozen t, hb.lt⟩
theorem Three.keep {S : Nat → Prop} {w w' : World} {q : Nat} {G : Nat → Nat} (h : Three w q G) (hm : Mod S w w') (hq : ¬ S q) : Three w' q G := by
  obtain ⟨cs, hb, hz, hc⟩ := h
  exact ⟨cs, hb.keep hm hq, hz, hc⟩
theorem Three.set {w : World} {q : Nat} {G : Nat → Nat} (h : Three w q G) {t : Nat} (v : Nat) (ht : t < 3) : Three (w.setCell ⟨q, t, none⟩ (.int .i64 v)) q (upd G t v) := by
  obtain ⟨cs, hb, hz, hc⟩ := h
  refine ⟨_, hb.set_ t (.int .i64 v), by simp [hz], fun s hs => ?_⟩
  rw [Array.getElem?_setIfInBounds]
  by_cases e : t = s
  · subst e; rw [upd_same]; simp [hz, ht]
  · rw [if_neg e, upd_other _ _ (Ne.symm e)]; exact hc s hs
theorem getD_mem {l : List Int} {i : Nat} (h : i < l.length) : l.getD i 0 ∈ l := by
  rw [List.getD_eq_getElem?_getD, List.getElem?_eq_getElem h]
  exact List.getElem_mem _
set_option maxRecDepth 100000 in
set_option maxHeartbeats 8000000 in
theorem law_floorDraws (A0 : Option Addr) (n0 c0 : Nat) (ld : List Int) (A1 : Option Addr) (n1 c1 : Nat) (lt : List Int) (w : World) (hl0 : ld.length = n0) (hr0 : Reads w w.heap.size 1 A0 n0 (ld.map (Value.int .u8))) (hl1 : lt.length = n1) (hr1 : Reads w w.heap.size 1 A1 n1 (lt.map (Value.int .u8))) (hb0 : ∀ x ∈ ld, 0 ≤ x ∧ x ≤ 255) (hb1 : ∀ x ∈ lt, 0 ≤ x ∧ x ≤ 255) :
    Calls Try.prog 3 #[.slice A0 n0 c0, .slice A1 n1 c1] w
     fun en w' => en = .returned (.bool true) ∧ Mod nowhere w w' := by
  have HD := hide hr0
  have HT := hide hr1
  have HB0 := hide hb0
  have HB1 := hide hb1
  have HL0 := hide hl0
  have HL1 := hide hl1
  clear hr0 hr1 hb0 hb1 hl0 hl1
  by_cases g1 : 200 < n1
  · go_enter Try.func3, Try.ntmps3
    go_wp2_with fail
    (with_reducible refine (alive13_calls _).mono ?_)
    rintro e w1 ⟨rfl, hbw1⟩
    have hzw1 := hbw1.size
    (try simp at hzw1)
    skip
    skip
    go_wp2
    go_ret
    exact ⟨rfl, (by repeat (first | with_reducible exact Mod.refl _ _ | with_reducible assumption | with_reducible refine Mod.alloc ?_ _ | with_reducible refine Mod.drew ?_ | with_reducible refine Mod.drewN ?_ _ | with_reducible refine Mod.setCell ?_ (by first | exact .inl rfl | (left; (try unfold from_); show _ ≤ _; first | omega | (simp; done) | (simp; omega)) | (right; first | omega | (simp; done) | (simp; omega))) _ | with_reducible refine Mod.call0 ?_ (by with_reducible assumption) | with_reducible refine Mod.call ?_ (by with_reducible assumption) (by first | (rintro _ rfl; first | exact .inl rfl | (right; (first | omega | (simp; done) | (simp; omega)))) | (rintro _ (rfl | rfl) <;> (right; (first | omega | (simp; done) | (simp; omega)))))))⟩
  by_cases g0 : 200 < n0
  · go_enter Try.func3, Try.ntmps3
    go_wp2_with fail
    (with_reducible refine (alive13_calls _).mono ?_)
    rintro e w1 ⟨rfl, hbw1⟩
    have hzw1 := hbw1.size
    (try simp at hzw1)
    skip
    skip
    go_wp2
    go_ret
    exact ⟨rfl, (by repeat (first | with_reducible exact Mod.refl _ _ | with_reducible assumption | with_reducible refine Mod.alloc ?_ _ | with_reducible refine Mod.drew ?_ | with_reducible refine Mod.drewN ?_ _ | with_reducible refine Mod.setCell ?_ (by first | exact .inl rfl | (left; (try unfold from_); show _ ≤ _; first | omega | (simp; done) | (simp; omega)) | (right; first | omega | (simp; done) | (simp; omega))) _ | with_reducible refine Mod.call0 ?_ (by with_reducible assumption) | with_reducible refine Mod.call ?_ (by with_reducible assumption) (by first | (rintro _ rfl; first | exact .inl rfl | (right; (first | omega | (simp; done) | (simp; omega)))) | (rintro _ (rfl | rfl) <;> (right; (first | omega | (simp; done) | (simp; omega)))))))⟩
  go_enter Try.func3, Try.ntmps3
  go_wp2_with fail
  (with_reducible refine (alive13_calls _).mono ?_)
  rintro e w1 ⟨rfl, hbw1⟩
  have hzw1 := hbw1.size
  (try simp at hzw1)
  skip
  skip
  have y1 : Mod nowhere w w1 := (by repeat (first | with_reducible exact Mod.refl _ _ | with_reducible assumption | with_reducible refine Mod.alloc ?_ _ | with_reducible refine Mod.drew ?_ | with_reducible refine Mod.drewN ?_ _ | with_reducible refine Mod.setCell ?_ (by first | exact .inl rfl | (left; (try unfold from_); show _ ≤ _; first | omega | (simp; done) | (simp; omega)) | (right; first | omega | (simp; done) | (simp; omega))) _ | with_reducible refine Mod.call0 ?_ (by with_reducible assumption) | with_reducible refine Mod.call ?_ (by with_reducible assumption) (by first | (rintro _ rfl; first | exact .inl rfl | (right; (first | omega | (simp; done) | (simp; omega)))) | (rintro _ (rfl | rfl) <;> (right; (first | omega | (simp; done) | (simp; omega)))))))
  go_wp2_with fail
  (with_reducible refine (plain_calls 3 _).mono ?_)
  rintro e w2 ⟨rfl, hm2⟩
  have y2 : Mod nowhere w w2 := y1.call0 hm2
  go_wp2_with fail
  obtain ⟨W, hW⟩ : ∃ W, W = w2.alloc (.cells #[.int .i64 1, .int .i64 2] 2) := ⟨_, rfl⟩
  have yW : Mod nowhere w W := by rw [hW]; exact y2.alloc _
  have hbs : Blk W w2.heap.size 2 #[.int .i64 1, .int .i64 2] := by rw [hW]; exact Blk.new _ _ _
  rw [← hW]
  clear hW
  (with_reducible refine (fnew_callsZ [1, 2] ld w2.heap.size 0 2 2 A0 n0 c0 3 136 2 3 100 9 4 3 W rfl rfl rfl rfl (by unfold CfgOk; omega) (by omega) hbs.lt (fun k x hk => ?_) ((HD.out.keepMod (Nat.le_refl _) yW).more yW.size) HL0.out (by omega)).mono ?_)
  · rcases k with _ | _ | k
    · simp at hk; subst hk; exact hbs.cell 0
    · simp at hk; subst hk; exact hbs.cell 1
    · simp at hk
  rintro e w3 ⟨p, rfl, K, r, tk, g, gw, gp, rp, cc, Ac, cs, hp3, -, -, -, -, -, -, hdv3, hrp3, lts, hm3⟩
  have y3 : Mod nowhere w w3 := yW.call0 hm3
  have zW := yW.size
  have hR3 := RowN.zero hrp3
  have npr : p ≠ rp := Blk.ne_ hp3 hrp3 (by decide)
  clear hrp3 hbs hm3 y2 hm2
  go_wp2_with fail
  have h3 : Three (w3.alloc (.cells #[.int .i64 0, .int .i64 0, .int .i64 0] 32)) w3.heap.size (fun _ => 0) := by
    refine ⟨_, Blk.new _ _ _, rfl, fun t ht => ?_⟩
    have : t = 0 ∨ t = 1 ∨ t = 2 := by omega
    rcases this with rfl | rfl | rfl <;> rfl
  have y4 := y3.alloc (.cells #[.int .i64 0, .int .i64 0, .int .i64 0] 32)
  have m34 : Mod nowhere w3 (w3.alloc (.cells #[.int .i64 0, .int .i64 0, .int .i64 0] 32)) := (Mod.refl _ _).alloc _
  have H3 := hide h3
  have HP := hide hp3
  have HDV := hide hdv3
  have HR := hide hR3
  have lp3 := hp3.lt
  have hrl := (hR3.cell (t := 0) (by omega)).2.2
  have z3 := y3.size
  generalize hqe : w3.heap.size = q at *
  have hq0 : w.heap.size ≤ q := by omega
  obtain ⟨lp, -, -, -, -, lrp, -⟩ := lts
  clear h3 hp3 hdv3 hR3
  go_loopw [8, 9, 10] (fun s8 _ _ wx => ∃ (i : Nat) (G : Nat → Nat), s8 = .int .i64 i ∧ i ≤ n1 ∧ (∀ t, G t ≤ i) ∧ Three wx q G ∧ RowN wx rp 3 G ∧ FloorB wx p (.pointer (some ⟨K.a, 0, none⟩)) (.pointer (some ⟨K.t, 0, none⟩)) (.pointer (some ⟨K.c, 0, none⟩)) (.pointer (some ⟨tk, 0, none⟩)) (.pointer (some ⟨g, 0, none⟩)) 2 3 100 9 4 3 136 (.slice Ac n0 cc) (.slice (some ⟨rp, 0, none⟩) 3 3) (.slice none 0 0) ∧ LocRow wx W.heap.size 5 1 (.slice Ac n0 cc) n0 (ld.map (Value.int .u8)) ∧ Mod nowhere w wx)
    (fun s8 _ _ _ => (2000 - (intOf s8)).toNat)
  case atStart => exact ⟨0, fun _ => 0, rfl, Nat.zero_le _, fun _ => Nat.le_refl _, H3.out, HR.out.keep m34 id, HP.out.keep0 m34, HDV.out.keep0 m34, y4⟩
  case round =>
    obtain ⟨i, G, rfl, him, hG, h3, hR, hp, hdv, hmr⟩ := hrel
    have hsz := hmr.size
    by_cases hlt : i < n1
    · have hlt' : (i : Int) < (n1 : Int) := by omega
      obtain ⟨b, o, hAe, hb, hc⟩ := reads_cellK HT.out (Nat.le_refl _) (hmr.mono fun _ x => x.elim) hlt
      obtain ⟨x, hx⟩ : ∃ x, x = lt.getD i 0 := ⟨_, rfl⟩
      have hxb := HB1.out x (by rw [hx]; exact getD_mem (by have := HL1.out; omega))
      rw [← hx] at hc
      obtain ⟨t, ht⟩ : ∃ t : Nat, x % 4 = (t : Int) := ⟨(x % 4).toNat, by omega⟩
      have ht4 : t < 4 := by omega
      clear hx
      subst hAe
      by_cases h0 : t < 3 ∧ 0 < n0
      · obtain ⟨ht3, hn0⟩ := h0
        have ht3' : (t : Int) < 3 := by omega
        have hn0' : (0 : Int) < (n0 : Int) := by omega
        have hz0 : ((n0 : Int) == 0) = false := by simp; omega
        obtain ⟨j, hj⟩ : ∃ j, j = G t % n0 := ⟨_, rfl⟩
        have hjn : j < n0 := by rw [hj]; exact Nat.mod_lt _ hn0
        have hrem : ((G t : Nat) : Int) % (n0 : Int) = (j : Int) := by rw [hj]; rfl
        obtain ⟨b0, o0, hAe0, hbb0, hc0⟩ := reads_cellK HD.out (Nat.le_refl _) (hmr.mono fun _ x => x.elim) hjn
        obtain ⟨v, hv⟩ : ∃ v, v = ld.getD j 0 := ⟨_, rfl⟩
        have hvb := HB0.out v (by rw [hv]; exact getD_mem (by have := HL0.out; omega))
        have HV := hide (show ld.getD (G t % n0) 0 = v by rw [hv, hj])
        rw [← hv] at hc0
        have hGt : G t ≤ 200 := by have := hG t; omega
        obtain ⟨c3, f3, l3⟩ := h3.cell ht3
        have HN := hide (h3.set (G t + 1) ht3)
        have m5 : Mod (· = q) wr (wr.setCell ⟨q, t, none⟩ (.int .i64 ((G t + 1 : Nat) : Int))) := Mod.setCell (S := (· = q)) (Mod.refl _ _) (.inl rfl) _
        have y5 : Mod nowhere w (wr.setCell ⟨q, t, none⟩ (.int .i64 ((G t + 1 : Nat) : Int))) := hmr.setCell (.inr hq0) _
        have npq : p ≠ q := by omega
        have nrq : rp ≠ q := by omega
        have HP5 := hide (Blk.keep hp m5 npq)
        have HR5 := hide (hR.keep m5 nrq)
        have HDV5 := hide (hdv.far m5 (fun b hb e => by obtain ⟨-, cur, hc⟩ := HDV.out.blk b hb; have := hc.lt; omega))
        have HG := hide hG
        have HM5 := hide y5
        obtain ⟨gt, hgt⟩ : ∃ gt, gt = G t := ⟨_, rfl⟩
        have HGT := hide hgt
        rw [← hgt] at hrem hGt c3 HN HP5 HR5 HDV5 HM5 m5
        have hcast : ((gt + 1 : Nat) : Int) = (gt : Int) + 1 := by omega
        rw [hcast] at HN HP5 HR5 HDV5 HM5
        clear hj hv hG h3 hR hp hdv m5 hgt hcast
        subst hAe0
        go_wp2_with fail
        all_goals
          (with_reducible refine (draw_yesZ p rp 3 n0 cc t W.heap.size (t : Int) v Ac _ _ _ _ _ _ _ _ _ _ _ _ _ ld G _ rfl HP5.out HDV5.out HL0.out HR5.out ht3 hn0 (by omega) (by have := HG.out t; omega) HB0.out HV.out).mono ?_)
          rintro e w9 ⟨rfl, hR9, hm9⟩
        all_goals
          have npr : p ≠ rp := by assumption
          have hp9 := Blk.keep HP5.out hm9 npr
          have h39 := HN.out.keep hm9 (show ¬ q = rp from fun e => nrq e.symm)
          have hdv9 := HDV5.out.far hm9 (fun b hb e => by obtain ⟨-, cur, hc⟩ := HDV5.out.blk b hb; obtain ⟨cs9, hb9, -⟩ := HR5.out; exact Blk.ne_ hc hb9 (by decide) e)
          have y9 : Mod nowhere w w9 := HM5.out.call hm9 (fun i e => .inr (by omega))
          rw [← HGT.out] at hR9
          have hG9 : ∀ s, upd G t (gt + 1) s ≤ i + 1 := fun s => by
            by_cases e : s = t
            · subst e
              rw [upd_same]
              have := HG.out s
              have := HGT.out
              omega
            · rw [upd_other _ _ e]
              have := HG.out s
              omega
        all_goals
          go_wp2
          go_roundw
        case rel => exact ⟨i + 1, upd G t (gt + 1), by go_num, by omega, hG9, h39, hR9, hp9, hdv9, y9⟩
        case measure => simp [intOf] <;> omega
      · rcases (show (3 : Int) ≤ (t : Int) ∨ ((t : Int) < 3 ∧ ¬ (0 : Int) < (n0 : Int)) by omega) with h0 | ⟨h0, h00⟩
        · go_wp2_with fail
          have hno : (t : Int) < 0 ∨ ((3 : Nat) : Int) ≤ (t : Int) ∨ n0 = 0 := by omega
          (with_reducible refine (draw_no p 3 n0 cc (t : Int) Ac _ _ _ _ _ _ _ _ _ _ _ _ _ _ wr hp hno).mono ?_)
          rintro e w9 ⟨rfl, hm9⟩
          go_wp2
          go_roundw
          case rel => exact ⟨i + 1, G, by go_num, by omega, fun s => Nat.le_succ_of_le (hG s), h3.keep hm9 id, hR.keep hm9 id, Blk.keep0 hp hm9, hdv.keep0 hm9, hmr.call0 hm9⟩
          case measure => simp [intOf] <;> omega
        · go_wp2_with fail
          have hno : (t : Int) < 0 ∨ ((3 : Nat) : Int) ≤ (t : Int) ∨ n0 = 0 := by omega
          (with_reducible refine (draw_no p 3 n0 cc (t : Int) Ac _ _ _ _ _ _ _ _ _ _ _ _ _ _ wr hp hno).mono ?_)
          rintro e w9 ⟨rfl, hm9⟩
          go_wp2
          go_roundw
          case rel => exact ⟨i + 1, G, by go_num, by omega, fun s => Nat.le_succ_of_le (hG s), h3.keep hm9 id, hR.keep hm9 id, Blk.keep0 hp hm9, hdv.keep0 hm9, hmr.call0 hm9⟩
          case measure => simp [intOf] <;> omega
    · obtain rfl : i = n1 := by omega
      go_wp2_with fail
      (with_reducible refine (draw_no p 3 n0 cc (-1) Ac _ _ _ _ _ _ _ _ _ _ _ _ _ _ wr hp (.inl (by omega))).mono ?_)
      rintro e w9 ⟨rfl, hm9⟩
      go_wp2
      go_ret
      exact ⟨rfl, hmr.call0 hm9⟩
end Go.Proofs.Ytcfpgecchappoaa
