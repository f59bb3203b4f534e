/- The law PaceKeeps, walked. -/
import Derived.Test.YtffeidjalphemaaPaceB
namespace Go.Proofs.Ytffeidjalphemaa
open Go.RowKit

theorem pickW_self {n k : Nat} (hk : k < n) : pickW n (k : Int) = k := by
  unfold pickW
  have : (if (0 : Int) < (k : Int) then (k : Int) else 0) = (k : Int) := by split <;> omega
  rw [this, Int.emod_eq_of_lt (by omega) (by omega)]
  omega
/-- What was made fair is made as it is. -/
theorem stM_again (f : Int) (n : Nat) (hn : 0 < n) (hf : (n : Int) ≤ f) (ws : List Int) : stM f n (stM f n ws).2 = stM f n ws := by
  refine stM_ind f n (fun ws s => stM f n s.2 = s) rfl (fun ws w ih => ?_) ws
  rw [stM_snoc]
  simp only
  rw [stM_snoc, ih]
  have hlt := pickOf_lt (stM f n ws).1 hn w
  have hp : pickOf (stM f n ws).1 n ((pickOf (stM f n ws).1 n w : Nat) : Int) = pickOf (stM f n ws).1 n w := by
    have hc := (stM_hall f n hn hf ws).can hn w
    generalize pickOf (stM f n ws).1 n w = k at hlt hc
    unfold pickOf
    rw [pickW_self hlt, if_pos hc]
  rw [hp]
/-- Who wishes while all others can still wait, is picked. -/
theorem pick_wish {f : Int} {n e : Nat} {ws : List Int} {w : Int} (hn : 0 < n) (hf : f = (n : Int) + (e : Int)) (h : ∀ t, t < n → (wtL (t : Int) (stM f n ws).2).1 + 1 ≤ e) : pickOf (stM f n ws).1 n w = pickW n w := by
  unfold pickOf
  rw [if_pos]
  rw [canP_iff]
  intro m
  by_cases hm : n ≤ m
  · have := cnt_le (fun t => decide (t ≠ pickW n w) && decide ((stM f n ws).1.getD t 0 - 1 < (m : Int))) n
    omega
  · rw [cnt_zero fun t ht => ?_]
    · omega
    · have h1 := (stM_wait f n hn (by omega) ws t ht).1
      have h2 := h t ht
      simp only [Bool.and_eq_false_imp, decide_eq_false_iff_not]
      intro _
      omega
/-- A block of six whole numbers, the first N of which are known. -/
def Six (w : World) (q N : Nat) (F : Nat → Nat) : Prop := ∃ cs : Array Value, Blk w q 32 cs ∧ cs.size = 6 ∧ ∀ t, t < N → cs[t]? = some (.int .i64 (F t))
theorem Six.cell {w : World} {q N : Nat} {F : Nat → Nat} (h : Six w q N F) {t : Nat} (ht : t < N) : w.cell? ⟨q, t, none⟩ = some (.int .i64 (F t)) ∧ w.frozen? ⟨q, t, none⟩ = false ∧ q < w.heap.size := by
  obtain ⟨cs, hb, -, hc⟩ := h
  exact ⟨(hb.cell t).trans (hc t ht), hb.frozen t, hb.lt⟩
theorem Six.set {w : World} {q N : Nat} {F G : Nat → Nat} (h : Six w q N F) {t : Nat} (v : Nat) (ht : t < 6) (hG : ∀ s, s < N → G s = if s = t then v else F s) : Six (w.setCell ⟨q, t, none⟩ (.int .i64 v)) q N G := by
  obtain ⟨cs, hb, hz, hc⟩ := h
  refine ⟨_, hb.set_ t (.int .i64 v), by simp [hz], fun s hs => ?_⟩
  rw [Array.getElem?_setIfInBounds, hG s hs]
  by_cases e : t = s
  · subst e; simp [hz, ht]
  · rw [if_neg e, if_neg (Ne.symm e)]; exact hc s hs

set_option maxRecDepth 100000 in
set_option maxHeartbeats 8000000 in
theorem law_paceKeeps (A : Option Addr) (m c : Nat) (l : List Int) (nn more : Int) (w : World) (hl : l.length = m) (hr : Reads w w.heap.size 1 A m (l.map (Value.int .i64))) (a0 : 0 ≤ nn) (a1 : nn ≤ 255) (b0 : 0 ≤ more) (b1 : more ≤ 255) :
    Calls Try.prog 6 #[.slice A m c, .int .u8 nn, .int .u8 more] w
     fun en w' => en = .returned (.bool true) ∧ Mod nowhere w w' := by
  by_cases g0 : 400 < m
  · go_enter Try.func6, Try.ntmps6
    go_wp2_with fail
    (with_reducible refine (alive22_calls _).mono ?_)
    rintro e w1 ⟨rfl, hbw1⟩
    have hzw1 := hbw1.size
    (try simp at hzw1)
    skip
    skip
    go_wp2
    go_ret
    exact ⟨rfl, (by repeat (first | with_reducible exact Mod.refl _ _ | with_reducible assumption | with_reducible refine Mod.alloc ?_ _ | with_reducible refine Mod.drew ?_ | with_reducible refine Mod.drewN ?_ _ | with_reducible refine Mod.setCell ?_ (by first | exact .inl rfl | (left; (try unfold from_); show _ ≤ _; first | omega | (simp; done) | (simp; omega)) | (right; first | omega | (simp; done) | (simp; omega))) _ | with_reducible refine Mod.call0 ?_ (by with_reducible assumption) | with_reducible refine Mod.call ?_ (by with_reducible assumption) (by first | (rintro _ rfl; first | exact .inl rfl | (right; (first | omega | (simp; done) | (simp; omega)))) | (rintro _ (rfl | rfl) <;> (right; (first | omega | (simp; done) | (simp; omega)))))))⟩
  have HR := hide hr
  have HL := hide hl
  clear hr hl
  obtain ⟨n, hn⟩ : ∃ n : Nat, nn % 6 = (n : Int) := ⟨(nn % 6).toNat, by omega⟩
  obtain ⟨e, he⟩ : ∃ e : Nat, more % 20 = (e : Int) := ⟨(more % 20).toNat, by omega⟩
  have hn6 : n < 6 := by omega
  have he20 : e < 20 := by omega
  go_enter Try.func6, Try.ntmps6
  go_wp2_with fail
  (with_reducible refine (alive22_calls _).mono ?_)
  rintro e w1 ⟨rfl, hbw1⟩
  have hzw1 := hbw1.size
  (try simp at hzw1)
  skip
  skip
  have y1 : Mod nowhere w w1 := (by repeat (first | with_reducible exact Mod.refl _ _ | with_reducible assumption | with_reducible refine Mod.alloc ?_ _ | with_reducible refine Mod.drew ?_ | with_reducible refine Mod.drewN ?_ _ | with_reducible refine Mod.setCell ?_ (by first | exact .inl rfl | (left; (try unfold from_); show _ ≤ _; first | omega | (simp; done) | (simp; omega)) | (right; first | omega | (simp; done) | (simp; omega))) _ | with_reducible refine Mod.call0 ?_ (by with_reducible assumption) | with_reducible refine Mod.call ?_ (by with_reducible assumption) (by first | (rintro _ rfl; first | exact .inl rfl | (right; (first | omega | (simp; done) | (simp; omega)))) | (rintro _ (rfl | rfl) <;> (right; (first | omega | (simp; done) | (simp; omega)))))))
  go_wp2_with fail
  (with_reducible refine (make_callsZ A m c w.heap.size (1 + n) l (1 + (n : Int)) (1 + (n : Int) + (e : Int)) w1 (by omega) (HR.out.keepMod (Nat.le_refl _) y1) y1.size HL.out (by omega) (by omega) (by omega) (by omega) (by omega)).mono ?_)
  rintro e2 w2 ⟨z2, rfl, hz2, hm2⟩
  have y2 : Mod nowhere w w2 := y1.call0 hm2
  obtain ⟨A2, c2, rfl, hrd2⟩ := hz2.reads
  have HRD := hide hrd2
  have hlen := (stM_len (1 + (n : Int) + (e : Int)) (1 + n) l).2.trans HL.out
  have hagain := stM_again (1 + (n : Int) + (e : Int)) (1 + n) (by omega) (by omega) l
  have HLEN := hide hlen
  clear hz2 hrd2
  go_wp2_with fail
  (with_reducible refine (make_callsZ A2 m c2 w2.heap.size (1 + n) (stM (1 + (n : Int) + (e : Int)) (1 + n) l).2 (1 + (n : Int)) (1 + (n : Int) + (e : Int)) w2 (by omega) HRD.out (Nat.le_refl _) hlen (by omega) (by omega) (by omega) (by omega) (by omega)).mono ?_)
  rintro e3 w3 ⟨z3, rfl, hz3, hm3⟩
  rw [hagain] at hz3
  have y3 : Mod nowhere w w3 := y2.call0 hm3
  obtain ⟨A3, c3, rfl, hrd3⟩ := hz3.reads
  have HRD3 := hide hrd3
  clear hz3 hrd3 hagain hlen
  go_wp2_with fail
  (with_reducible refine (ints_same (stM (1 + (n : Int) + (e : Int)) (1 + n) l).2 A2 A3 m c2 c3 w2.heap.size w3.heap.size w3 HLEN.out (by omega) (HRD.out.keepMod (Nat.le_refl _) hm3) HRD3.out hm3.size (Nat.le_refl _)).mono ?_)
  rintro e4 w4 ⟨rfl, hm4⟩
  have y4 : Mod nowhere w w4 := y3.call0 hm4
  have m24 : Mod nowhere w2 w4 := hm3.call0 hm4
  have hz24 := m24.size
  go_wp2_with fail
  have h6 : Six (w4.alloc (.cells #[.int .i64 0, .int .i64 0, .int .i64 0, .int .i64 0, .int .i64 0, .int .i64 0] 32)) w4.heap.size (1 + n) (fun t => (wtL (t : Int) ((stM (1 + (n : Int) + (e : Int)) (1 + n) l).2.take 0)).1) := by
    refine ⟨_, Blk.new _ _ _, rfl, fun t ht => ?_⟩
    have : t = 0 ∨ t = 1 ∨ t = 2 ∨ t = 3 ∨ t = 4 ∨ t = 5 := by omega
    rcases this with rfl | rfl | rfl | rfl | rfl | rfl <;> rfl
  have m25 := m24.alloc (.cells #[.int .i64 0, .int .i64 0, .int .i64 0, .int .i64 0, .int .i64 0, .int .i64 0] 32)
  have H6 := hide h6
  generalize hqe : w4.heap.size = q at *
  clear h6
  go_loopw [14, 15, 16] (fun s14 _ _ wx => ∃ (i : Nat), s14 = .int .i64 i ∧ i ≤ m ∧ Six wx q (1 + n) (fun t => (wtL (t : Int) ((stM (1 + (n : Int) + (e : Int)) (1 + n) l).2.take i)).1) ∧ Mod nowhere w2 wx)
    (fun s14 _ _ _ => (2000 - (intOf s14)).toNat)
  case atStart => exact ⟨0, rfl, Nat.zero_le _, H6.out, m25⟩
  case round =>
    obtain ⟨i, rfl, him, hS, hmr⟩ := hrel
    have hsz := hmr.size
    have hqw : w2.heap.size ≤ q := by omega
    have HS := hide hS
    clear hS
    by_cases hlt : i < m
    · have hlt' : (i : Int) < (m : Int) := by omega
      obtain ⟨b, o, hAe, hb, hc⟩ := reads_cell HR.out (Nat.le_refl _) ((y2.call0 hmr).mono fun _ x => x.elim) hlt
      obtain ⟨b2, o2, hAe2, hb2, hc2'⟩ := reads_cell HRD.out (Nat.le_refl _) (hmr.mono fun _ x => x.elim) hlt
      have HC2 := hide (fun W (hW : Mod nowhere w2 W) => (reads_cell HRD.out (Nat.le_refl _) (hW.mono fun _ x => x.elim) hlt))
      obtain ⟨x, hx⟩ : ∃ x, l[i]? = some x := ⟨_, List.getElem?_eq_getElem (show i < l.length by have := HL.out; omega)⟩
      have htk : l.take (i + 1) = l.take i ++ [x] := by rw [List.take_add_one, hx]; rfl
      rw [show l.getD i 0 = x by rw [List.getD_eq_getElem?_getD, hx]; rfl] at hc
      obtain ⟨out, hout⟩ : ∃ out, out = (stM (1 + (n : Int) + (e : Int)) (1 + n) l).2 := ⟨_, rfl⟩
      have hto : out.take i = (stM (1 + (n : Int) + (e : Int)) (1 + n) (l.take i)).2 := by rw [hout]; exact (stM_take _ _ _ _).symm
      obtain ⟨v, hv⟩ : ∃ v, out[i]? = some v := ⟨_, List.getElem?_eq_getElem (show i < out.length by rw [hout]; have := HLEN.out; omega)⟩
      have hto2 : out.take (i + 1) = out.take i ++ [v] := by rw [List.take_add_one, hv]; rfl
      have hvp : v = ((pickOf (stM (1 + (n : Int) + (e : Int)) (1 + n) (l.take i)).1 (1 + n) x : Nat) : Int) := by
        have h1 : out.take (i + 1) = (stM (1 + (n : Int) + (e : Int)) (1 + n) (l.take (i + 1))).2 := by rw [hout]; exact (stM_take _ _ _ _).symm
        rw [htk, stM_snoc, ← hto, hto2] at h1
        have := List.append_cancel_left h1
        simpa using this
      rw [← hout] at HC2 HS hc2'
      rw [show out.getD i 0 = v by rw [List.getD_eq_getElem?_getD, hv]; rfl] at HC2 hc2'
      have HTO := hide hto
      have HTO2 := hide hto2
      have HVP := hide hvp
      obtain ⟨W, hW⟩ : ∃ W : Nat → Nat, W = fun (t : Nat) => (wtL (t : Int) (out.take i)).1 := ⟨_, rfl⟩
      rw [← hW] at HS
      have HW := hide hW
      obtain ⟨wp, hwp⟩ : ∃ wp, wp = (if 0 < x then x else 0) := ⟨_, rfl⟩
      have hwp0 : 0 ≤ wp := by rw [hwp]; split <;> omega
      have hmax : ∀ ts t W, (Builtin.max_ ts t #[.int .i64 0, .int .i64 x]).run Try.prog W = .ok (.int .i64 wp) W := fun ts t W => by rw [hwp]; exact run_max2 ts t 0 x W
      obtain ⟨p0, hp0⟩ : ∃ p0, p0 = pickW (1 + n) x := ⟨_, rfl⟩
      have hrem : wp % (1 + (n : Int)) = (p0 : Int) := by rw [hwp, hp0, show (1 + (n : Int)) = ((1 + n : Nat) : Int) by omega]; exact pickW_eq (by omega) x
      have hp0n : p0 < 1 + n := by rw [hp0]; exact pickW_lt (by omega) x
      have hWle : ∀ t, W t ≤ 400 := fun t => by
        rw [hW]
        have := (wtL_le (t : Int) (out.take i)).1
        rw [List.length_take] at this
        simp only; omega
      have HWL := hide hWle
      have HP0 := hide hp0
      have HOUT := hide hout
      clear hx htk hto hv hto2 hvp hW hwp hp0 hWle hc2' hb2 hAe2 hout
      subst hAe
      go_wp2_with fail
      go_loopw [16] (fun s16 wx => ∃ (t : Nat), s16 = .int .i64 t ∧ t ≤ 1 + n ∧ Six wx q (1 + n) (fun s => if s < t then W s + 1 else W s) ∧ (∀ s, s < t → W s + 1 ≤ e) ∧ Mod nowhere w2 wx)
        (fun s16 _ => (300 - (intOf s16)).toNat)
      case atStart => exact ⟨0, rfl, Nat.zero_le _, by simpa using HS.out, fun s h => absurd h (by omega), hmr⟩
      case round =>
        clear hmr hsz hc
        obtain ⟨t, rfl, ht, hS, hall, hmr⟩ := hrel
        have HS2 := hide hS
        have HALL := hide hall
        clear hS hall
        by_cases htn : t < 1 + n
        · have htn' : (t : Int) < 1 + (n : Int) := by omega
          obtain ⟨c1, f1, lq⟩ := HS2.out.cell htn
          rw [if_neg (Nat.lt_irrefl t)] at c1
          have hwt := HWL.out t
          have hnew : Six (wr.setCell ⟨q, t, none⟩ (.int .i64 ((W t + 1 : Nat) : Int))) q (1 + n) (fun s => if s < t + 1 then W s + 1 else W s) := HS2.out.set (W t + 1) (by omega) fun s hs => by
            by_cases e1 : s = t
            · subst e1; rw [if_pos (by omega), if_pos rfl]
            · rw [if_neg e1]
              by_cases e2 : s < t
              · rw [if_pos (by omega), if_pos e2]
              · rw [if_neg (by omega), if_neg e2]
          have HNEW := hide hnew
          obtain ⟨c2n, f2n, l2n⟩ := hnew.cell htn
          rw [if_pos (Nat.lt_succ_self t)] at c2n
          have y9 : Mod nowhere w2 (wr.setCell ⟨q, t, none⟩ (.int .i64 ((W t + 1 : Nat) : Int))) := hmr.setCell (.inr hqw) _
          have Y9 := hide y9
          generalize hgw : W t = wt at *
          clear hnew f2n l2n y9
          by_cases hgt : e < wt + 1
          · have hgt' : 1 + (n : Int) + (e : Int) - (1 + (n : Int)) < (wt : Int) + 1 := by omega
            go_wp2
            go_ret
            exact ⟨rfl, y2.call0 Y9.out⟩
          · have hgt' : ¬ 1 + (n : Int) + (e : Int) - (1 + (n : Int)) < (wt : Int) + 1 := by omega
            have HG := hide hgt
            clear hgt
            go_wp2
            go_roundw
            case rel => exact ⟨t + 1, by go_num, by omega, HNEW.out, fun s hs => by
              by_cases e1 : s = t
              · subst e1; have := HG.out; omega
              · exact HALL.out s (by omega), Y9.out⟩
            case measure => simp [intOf] <;> omega
        · obtain rfl : t = 1 + n := by omega
          have hpw : v = (p0 : Int) := by
            rw [HVP.out, HP0.out]
            congr 1
            refine pick_wish (e := e) (by omega) (by omega) fun t ht => ?_
            have := HALL.out t ht
            rw [HW.out, HTO.out] at this
            exact this
          obtain ⟨c3, f3, l3⟩ := HS2.out.cell hp0n
          have hnew : Six (wr.setCell ⟨q, p0, none⟩ (.int .i64 0)) q (1 + n) (fun s => (wtL (s : Int) (out.take (i + 1))).1) := HS2.out.set 0 (by omega) fun s hs => by
            rw [HTO2.out, wtL_snoc, hpw]
            simp only [wtS]
            by_cases e1 : s = p0
            · subst e1; rw [if_pos rfl, if_pos rfl]
            · rw [if_neg (by omega), if_neg e1, if_pos hs, HW.out]
          have HNEW := hide hnew
          have y9 : Mod nowhere w2 (wr.setCell ⟨q, p0, none⟩ (.int .i64 0)) := hmr.setCell (.inr hqw) _
          have Y9 := hide y9
          obtain ⟨b2, o2, hAe2, hb2, hc2⟩ := HC2.out _ y9
          rw [hpw] at hc2
          subst hAe2
          clear hnew y9 hpw htn HC2
          go_wp2
          go_roundw
          case rel => exact ⟨i + 1, by go_num, by omega, by rw [← HOUT.out]; exact HNEW.out, Y9.out⟩
          case measure => simp [intOf] <;> omega
    · obtain rfl : m = i := by omega
      go_wp2
      go_ret
      exact ⟨rfl, y2.call0 hmr⟩
end Go.Proofs.Ytffeidjalphemaa
