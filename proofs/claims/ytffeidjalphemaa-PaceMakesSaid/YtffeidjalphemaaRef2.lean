/- The document's Make, walked. -/
import Derived.Test.YtffeidjalphemaaRef
namespace Go.Proofs.Ytffeidjalphemaa
open Go.RowKit

theorem refcan_callsZ (A : Option Addr) (n c B p : Nat) (pt : List Int) (px : Int) (w : World) (hpx : px = p) (hr : Reads w B 1 A n (pt.map (Value.int .i64))) (hB : B ≤ w.heap.size) (hn : n ≤ 100) (hpt : ∀ t, t < n → -1000000 ≤ pt.getD t 0 ∧ pt.getD t 0 ≤ 9223372036854775807) :
    Calls Try.prog 21 #[.slice A n c, .int .i64 px] w fun e w' => e = .returned (.bool (decide (CanP (qto pt (p : Int) n)))) ∧ Mod nowhere w w' := by
  subst hpx; exact refcan_calls A n c B p pt w hr hB hn hpt
set_option maxRecDepth 100000 in
set_option maxHeartbeats 8000000 in
theorem refmake_calls (A : Option Addr) (m c B n : Nat) (ws : List Int) (f : Int) (w : World) (hr : Reads w B 1 A m (ws.map (Value.int .i64))) (hB : B ≤ w.heap.size) (hl : ws.length = m) (hm : m ≤ 400) (h1 : 1 ≤ n) (h6 : n ≤ 6) (hf : (n : Int) ≤ f) (hfi : f ≤ 9223372036854775807) :
    Calls Try.prog 16 #[.slice A m c, .int .i64 n, .int .i64 f] w fun e w' => ∃ z, e = .returned z ∧ LocRow w' w.heap.size 3 1 z m ((stM f n ws).2.map (Value.int .i64)) ∧ Mod nowhere w w' := by
  have HR := hide hr
  have HL := hide hl
  clear hr hl
  obtain ⟨i0, hi, hz0, hz1, hz2⟩ := info_parts ainfo_int
  obtain ⟨wm, hmk, hom, hgm⟩ := run_make_full (P := Try.prog) w 0 22 3 i0 (.int .i64 0) 1 Try.underlying22 hi hz0 hz1 .i64 .i64 n (by rw [hz2]; omega) (by unfold maxLen; omega) (Nat.zero_le _)
  have ym : Mod nowhere w wm := (Mod.of_grown hgm).mono fun b hb => by cases hb
  obtain ⟨pt0, hpt0, hom0⟩ : ∃ pt0 : List Int, pt0.length = n ∧ wm.ownsRow 0 3 1 (.slice (some ⟨w.heap.size, 0, none⟩) n n) n (pt0.map (Value.int .i64)) :=
    ⟨List.replicate n 0, by simp, by rw [List.map_replicate]; rw [Nat.mul_one, show (Value.int .i64 0).cells = #[.int .i64 0] from rfl, toList_madeCells_one] at hom; exact hom⟩
  obtain ⟨rp, hrp⟩ : ∃ rp, rp = w.heap.size := ⟨_, rfl⟩
  rw [← hrp] at hmk hom0
  have hrpw : w.heap.size ≤ rp := by omega
  have HRP := hide hrp
  clear hom hgm hrp
  go_enter Try.func16, Try.ntmps16
  go_wp2_with fail
  go_loopw [9] (fun s9 wx => ∃ (j : Nat) (pt : List Int), s9 = .int .i64 j ∧ j ≤ n ∧ wx.ownsRow 0 3 1 (.slice (some ⟨rp, 0, none⟩) n n) n (pt.map (Value.int .i64)) ∧ pt.length = n ∧ (∀ t, t < j → pt.getD t 0 = f - 1) ∧ Mod nowhere w wx)
    (fun s9 _ => (300 - (intOf s9)).toNat)
  case atStart => exact ⟨0, pt0, rfl, Nat.zero_le _, hom0, hpt0, fun t h => absurd h (by omega), ym⟩
  case round =>
    obtain ⟨j, pt, rfl, hj, ho, hpl, hpt, hmr⟩ := hrel
    have HPT := hide hpt
    have HPL := hide hpl
    clear hpt hpl
    by_cases hlt : j < n
    · have c1 := row_cell ho hlt
      have f1 := ho.frozenAt j
      have hlt' : (j : Int) < (n : Int) := by omega
      go_wp2
      have hs := (ho.stored j (.int .i64 (f - 1))).1
      rw [map_set] at hs
      exact ⟨⟨j + 1, pt.set j (f - 1), by go_num, by omega, hs, by rw [List.length_set]; exact HPL.out, fun t ht => by rw [getD_set _ _ _ (by have := HPL.out; omega)]; split <;> first | rfl | exact HPT.out t (by omega), hmr.setCell (.inr hrpw) _⟩, by simp [intOf] <;> omega⟩
    · obtain rfl : n = j := by omega
      have hrep : pt = List.replicate n (f - 1) := list_getD_ext (by rw [HPL.out]; simp) fun t ht => by
        rw [HPL.out] at ht
        rw [HPT.out t ht]
        simp [List.getD_eq_getElem?_getD, ht]
      subst hrep
      go_wp2_with fail
      go_loopw [7, 10, 11, 12, 13] (fun s7 s10 _ _ _ wx => ∃ (i : Nat), s10 = .int .i64 i ∧ i ≤ m ∧ wx.ownsRow 0 3 1 (.slice (some ⟨rp, 0, none⟩) n n) n ((stM f n (ws.take i)).1.map (Value.int .i64)) ∧ LocRow wx (rp + 1) 3 1 s7 i ((stM f n (ws.take i)).2.map (Value.int .i64)) ∧ Mod nowhere w wx)
        (fun _ s10 _ _ _ _ => (2000 - (intOf s10)).toNat)
      case atStart => exact ⟨0, rfl, Nat.zero_le _, ho, LocRow.nil _ _ _ _, hmr⟩
      case round =>
        clear ho HPL HPT hmr
        obtain ⟨i, rfl, him, ho, hL, hmr⟩ := hrel
        have hsz := hmr.size
        by_cases hlt : i < m
        · have hlti : (i : Int) < (m : Int) := by omega
          obtain ⟨b, o, hAe, hb, hc⟩ := reads_cell HR.out hB (hmr.mono fun _ x => x.elim) hlt
          obtain ⟨x, hx⟩ : ∃ x, ws[i]? = some x := ⟨_, List.getElem?_eq_getElem (show i < ws.length by have := HL.out; omega)⟩
          have htk : ws.take (i + 1) = ws.take i ++ [x] := by rw [List.take_add_one, hx]; rfl
          rw [show ws.getD i 0 = x by rw [List.getD_eq_getElem?_getD, hx]; rfl] at hc
          have hbr : b < wr.heap.size := by omega
          have hbd := stM_bound f n (ws.take i)
          have hln := (stM_len f n (ws.take i)).1
          have hti : (ws.take i).length = i := by rw [List.length_take]; have := HL.out; omega
          rw [hti] at hbd
          obtain ⟨pt, hptd⟩ : ∃ pt, pt = (stM f n (ws.take i)).1 := ⟨_, rfl⟩
          rw [← hptd] at ho hbd hln
          have HPTD := hide hptd
          have HTK := hide htk
          have HLr := hide hL
          have HBD := hide hbd
          have HLN := hide hln
          have hrd : Reads wr wr.heap.size 1 (some ⟨rp, 0, none⟩) n (pt.map (Value.int .i64)) := Reads.of_own ho
          have hbd2 : ∀ t, t < n → -1000000 ≤ pt.getD t 0 ∧ pt.getD t 0 ≤ 9223372036854775807 := fun t ht => by have := hbd t ht; omega
          have HRD := hide hrd
          have HBD2 := hide hbd2
          have hpe := pickW_eq (show 0 < n by omega) x
          obtain ⟨p0, hp0⟩ : ∃ p0, p0 = pickW n x := ⟨_, rfl⟩
          have hp0n : p0 < n := by rw [hp0]; exact pickW_lt (by omega) x
          rw [← hp0] at hpe
          have HP0 := hide hp0
          subst hAe
          clear hx htk hptd hL hbd hln hti hrd hbd2 hp0
          by_cases hx0 : 0 < x
          · rw [if_pos hx0] at hpe
            go_wp2_with fail
            (with_reducible refine (refcan_callsZ (some ⟨rp, 0, none⟩) n n wr.heap.size p0 pt (p0 : Int) wr rfl HRD.out (Nat.le_refl _) (by omega) HBD2.out).mono ?_)
            rintro e w6 ⟨rfl, hm6⟩
            by_cases hcan : CanP (qto pt (p0 : Int) n)
            · rw [decide_eq_true hcan]
              have HPI := hide (show pickOf pt n x = p0 from by unfold pickOf; rw [← HP0.out, if_pos hcan])
              clear hcan
              have y6 : Mod nowhere wr w6 := hm6
              have hpk := hp0n
              generalize p0 = pk at *
              have ho6 := owns_keep0 ho y6
              have L6 := HLr.out.keep0 y6
              have yW : Mod nowhere w w6 := hmr.call0 y6
              clear ho hmr y6
              go_wp2_with fail
              go_loopw [13] (fun s13 wx => ∃ (j : Nat) (q : List Int), s13 = .int .i64 j ∧ j ≤ n ∧ wx.ownsRow 0 3 1 (.slice (some ⟨rp, 0, none⟩) n n) n (q.map (Value.int .i64)) ∧ q.length = n ∧ (∀ t, t < n → q.getD t 0 = if t < j then pt.getD t 0 - 1 else pt.getD t 0) ∧ LocRow wx (rp + 1) 3 1 u7 i ((stM f n (ws.take i)).2.map (Value.int .i64)) ∧ Mod nowhere w wx)
                (fun s13 _ => (300 - (intOf s13)).toNat)
              case atStart => exact ⟨0, pt, rfl, Nat.zero_le _, ho6, HLN.out, fun t ht => by simp, L6, yW⟩
              case round =>
                clear ho6 L6 yW
                obtain ⟨j, q, rfl, hj, ho, hql, hq, hL, hmr⟩ := hrel
                have HQ := hide hq
                have HQL := hide hql
                clear hq hql
                by_cases hjn : j < n
                · have hv : q.getD j 0 = pt.getD j 0 := by rw [HQ.out j hjn, if_neg (by omega)]
                  have c1 := row_cell ho hjn
                  rw [hv] at c1
                  have hbj := HBD2.out j hjn
                  have f1 := ho.frozenAt j
                  have hs := (ho.stored j (.int .i64 (pt.getD j 0 - 1))).1
                  rw [map_set] at hs
                  have HS := hide hs
                  generalize hgv : pt.getD j 0 = gv at c1 hbj HS
                  clear hs hv
                  go_wp2
                  exact ⟨⟨j + 1, q.set j (gv - 1), by go_num, by omega, HS.out, by rw [List.length_set]; exact HQL.out, fun t ht => by
                    rw [getD_set _ _ _ (by have := HQL.out; omega)]
                    by_cases e : t = j
                    · subst e; rw [if_pos rfl, if_pos (by omega), hgv]
                    · rw [if_neg e, HQ.out t ht]
                      by_cases e2 : t < j
                      · rw [if_pos e2, if_pos (by omega)]
                      · rw [if_neg e2, if_neg (by omega)], hL.far (S := (· = rp)) (by repeat (first | with_reducible exact Mod.refl _ _ | with_reducible assumption | with_reducible refine Mod.alloc ?_ _ | with_reducible refine Mod.drew ?_ | with_reducible refine Mod.drewN ?_ _ | with_reducible refine Mod.setCell ?_ (by first | exact .inl rfl | (left; (try unfold from_); show _ ≤ _; first | omega | (simp; done) | (simp; omega)) | (right; first | omega | (simp; done) | (simp; omega))) _ | with_reducible refine Mod.call0 ?_ (by with_reducible assumption) | with_reducible refine Mod.call ?_ (by with_reducible assumption) (by first | (rintro _ rfl; first | exact .inl rfl | (right; (first | omega | (simp; done) | (simp; omega)))) | (rintro _ (rfl | rfl) <;> (right; (first | omega | (simp; done) | (simp; omega))))))) (fun b hb e => by have := (hL.blk b hb).1; omega), hmr.setCell (.inr hrpw) _⟩, by simp [intOf] <;> omega⟩
                · obtain rfl : n = j := by omega
                  have c2 := row_cell ho hpk
                  have f2 := ho.frozenAt pk
                  have lq := (ownsRow_blk ho).elim fun _ hc => hc.lt
                  have hs := (ho.stored pk (.int .i64 (f - 1))).1
                  rw [map_set] at hs
                  have hst : q.set pk (f - 1) = stepPt f pt pk := list_getD_ext (by rw [List.length_set, HQL.out, stepPt_length, HLN.out]) fun t ht => by
                    rw [List.length_set, HQL.out] at ht
                    rw [getD_set _ _ _ (by rw [HQL.out]; exact hpk), stepPt_at _ (by rw [HLN.out]; exact ht), HQ.out t ht, if_pos ht]
                  rw [hst] at hs
                  have HS := hide hs
                  have hL2 := hL.far (S := (· = rp)) (w' := wr.setCell ⟨rp, pk, none⟩ (.int .i64 (f - 1))) (by repeat (first | with_reducible exact Mod.refl _ _ | with_reducible assumption | with_reducible refine Mod.alloc ?_ _ | with_reducible refine Mod.drew ?_ | with_reducible refine Mod.drewN ?_ _ | with_reducible refine Mod.setCell ?_ (by first | exact .inl rfl | (left; (try unfold from_); show _ ≤ _; first | omega | (simp; done) | (simp; omega)) | (right; first | omega | (simp; done) | (simp; omega))) _ | with_reducible refine Mod.call0 ?_ (by with_reducible assumption) | with_reducible refine Mod.call ?_ (by with_reducible assumption) (by first | (rintro _ rfl; first | exact .inl rfl | (right; (first | omega | (simp; done) | (simp; omega)))) | (rintro _ (rfl | rfl) <;> (right; (first | omega | (simp; done) | (simp; omega))))))) (fun b hb e => by have := (hL.blk b hb).1; omega)
                  have HL2 := hide hL2
                  have y2 : Mod nowhere w (wr.setCell ⟨rp, pk, none⟩ (.int .i64 (f - 1))) := hmr.setCell (.inr hrpw) _
                  clear hs hst hL2 hL
                  go_wp2_with (at_builtin; refine wpList_append_loc rfl _ _ _ rfl 3 i0 (.int .i64 0) Try.underlying22 hi hz0 hz1 hz2 rfl (rp + 1) u7 i ((stM f n (ws.take i)).2.map (Value.int .i64)) rfl (HL2.out.far (S := nowhere) (by repeat (first | with_reducible exact Mod.refl _ _ | with_reducible assumption | with_reducible refine Mod.alloc ?_ _ | with_reducible refine Mod.drew ?_ | with_reducible refine Mod.drewN ?_ _ | with_reducible refine Mod.setCell ?_ (by first | exact .inl rfl | (left; (try unfold from_); show _ ≤ _; first | omega | (simp; done) | (simp; omega)) | (right; first | omega | (simp; done) | (simp; omega))) _ | with_reducible refine Mod.call0 ?_ (by with_reducible assumption) | with_reducible refine Mod.call ?_ (by with_reducible assumption) (by first | (rintro _ rfl; first | exact .inl rfl | (right; (first | omega | (simp; done) | (simp; omega)))) | (rintro _ (rfl | rfl) <;> (right; (first | omega | (simp; done) | (simp; omega))))))) (fun _ _ h => h)) wr.heap.size (.int .i64 (pk : Int)) rfl (by repeat (first | with_reducible assumption | with_reducible apply Blk.new | with_reducible exact Blk.newAt (by first | rfl | (simp; done) | (simp; omega)) | with_reducible apply Blk.alloc | with_reducible apply Blk.drew | with_reducible apply Blk.drewN | with_reducible apply Blk.keep0 (hm := by with_reducible assumption) | with_reducible apply Blk.keep (hm := by with_reducible assumption) (hg := by first | omega | exact not_two (by omega) (by omega)) | with_reducible apply Blk.far (hp := by first | omega | (simp; done) | (simp; omega)) | with_reducible apply Blk.set1 | rfl)) rfl (by omega) (by simp; omega) ?_; rintro q1 cap1 w9 hq1 mq1 dq1 gq1 lq1)
                  exact ⟨⟨i + 1, by go_num, by omega, by rw [HTK.out, stM_snoc, ← HPTD.out, HPI.out]; exact owns_keep (owns_keep0 HS.out ((Mod.refl _ _).alloc _)) mq1 (fun e => by have := (HL2.out.blk rp e).1; omega), by rw [HTK.out, stM_snoc, ← HPTD.out, HPI.out, List.map_append]; exact hq1, (y2.alloc _).call mq1 (fun b e => .inr (by have := (HL2.out.blk b e).1; omega))⟩, by simp [intOf] <;> omega⟩
            · rw [decide_eq_false hcan]
              have HNC := hide hcan
              clear hcan
              have ho6 := owns_keep0 ho hm6
              have L6 := HLr.out.keep0 hm6
              have yW : Mod nowhere w w6 := hmr.call0 hm6
              clear ho hmr
              go_wp2_with fail
              go_loopw [11, 12] (fun s11 s12 wx => ∃ (t : Nat), s12 = .int .i64 t ∧ 1 ≤ t ∧ t ≤ n ∧ s11 = .int .i64 (minAt pt t) ∧ wx.ownsRow 0 3 1 (.slice (some ⟨rp, 0, none⟩) n n) n (pt.map (Value.int .i64)) ∧ LocRow wx (rp + 1) 3 1 u7 i ((stM f n (ws.take i)).2.map (Value.int .i64)) ∧ Mod nowhere w wx)
                (fun _ s12 _ => (300 - (intOf s12)).toNat)
              case atStart => exact ⟨1, rfl, Nat.le_refl _, h1, by simp [minAt], ho6, L6, yW⟩
              case round =>
                clear ho6 L6 yW
                obtain ⟨t, rfl, ht1, htn, rfl, ho, hL, hmr⟩ := hrel
                by_cases hlt2 : t < n
                · have hlt2' : (t : Int) < (n : Int) := by omega
                  have hmt := minAt_lt pt (show 0 < t by omega)
                  have hsu : minAt pt (t + 1) = if pt.getD t 0 < pt.getD (minAt pt t) 0 then t else minAt pt t := rfl
                  have HSU := hide hsu
                  have HLL := hide hL
                  have c1 := row_cell ho hlt2
                  have c2 := row_cell ho (show minAt pt t < n by omega)
                  generalize hmm : minAt pt t = mm at *
                  generalize hv1 : pt.getD t 0 = v1 at *
                  generalize hv2 : pt.getD mm 0 = v2 at *
                  clear hsu hL
                  by_cases hv : v1 < v2
                  · go_wp2_with fail
                    go_region
                    all_goals go_wp2
                    all_goals go_roundw
                    case rel => exact ⟨t + 1, by go_num, by omega, by omega, by rw [HSU.out, if_pos hv], ho, HLL.out, hmr.drew⟩
                    case measure => simp [intOf] <;> omega
                  · go_wp2_with fail
                    go_region
                    all_goals go_wp2
                    all_goals go_roundw
                    case rel => exact ⟨t + 1, by go_num, by omega, by omega, by rw [HSU.out, if_neg (by omega)], ho, HLL.out, hmr.drew⟩
                    case measure => simp [intOf] <;> omega
                · obtain rfl : n = t := by omega
                  have HPI := hide (show pickOf pt n x = minAt pt n from by unfold pickOf; rw [← HP0.out, if_neg HNC.out])
                  have hpk := minAt_lt pt (show 0 < n by omega)
                  have hL9 := hL
                  generalize minAt pt n = pk at *
                  go_wp2_with fail
                  go_loopw [13] (fun s13 wx => ∃ (j : Nat) (q : List Int), s13 = .int .i64 j ∧ j ≤ n ∧ wx.ownsRow 0 3 1 (.slice (some ⟨rp, 0, none⟩) n n) n (q.map (Value.int .i64)) ∧ q.length = n ∧ (∀ t, t < n → q.getD t 0 = if t < j then pt.getD t 0 - 1 else pt.getD t 0) ∧ LocRow wx (rp + 1) 3 1 u7 i ((stM f n (ws.take i)).2.map (Value.int .i64)) ∧ Mod nowhere w wx)
                    (fun s13 _ => (300 - (intOf s13)).toNat)
                  case atStart => exact ⟨0, pt, rfl, Nat.zero_le _, ho, HLN.out, fun t ht => by simp, hL9, hmr⟩
                  case round =>
                    clear ho hL hL9 hmr
                    obtain ⟨j, q, rfl, hj, ho, hql, hq, hL, hmr⟩ := hrel
                    have HQ := hide hq
                    have HQL := hide hql
                    clear hq hql
                    by_cases hjn : j < n
                    · have hv : q.getD j 0 = pt.getD j 0 := by rw [HQ.out j hjn, if_neg (by omega)]
                      have c1 := row_cell ho hjn
                      rw [hv] at c1
                      have hbj := HBD2.out j hjn
                      have f1 := ho.frozenAt j
                      have hs := (ho.stored j (.int .i64 (pt.getD j 0 - 1))).1
                      rw [map_set] at hs
                      have HS := hide hs
                      generalize hgv : pt.getD j 0 = gv at c1 hbj HS
                      clear hs hv
                      go_wp2
                      exact ⟨⟨j + 1, q.set j (gv - 1), by go_num, by omega, HS.out, by rw [List.length_set]; exact HQL.out, fun t ht => by
                        rw [getD_set _ _ _ (by have := HQL.out; omega)]
                        by_cases e : t = j
                        · subst e; rw [if_pos rfl, if_pos (by omega), hgv]
                        · rw [if_neg e, HQ.out t ht]
                          by_cases e2 : t < j
                          · rw [if_pos e2, if_pos (by omega)]
                          · rw [if_neg e2, if_neg (by omega)], hL.far (S := (· = rp)) (by repeat (first | with_reducible exact Mod.refl _ _ | with_reducible assumption | with_reducible refine Mod.alloc ?_ _ | with_reducible refine Mod.drew ?_ | with_reducible refine Mod.drewN ?_ _ | with_reducible refine Mod.setCell ?_ (by first | exact .inl rfl | (left; (try unfold from_); show _ ≤ _; first | omega | (simp; done) | (simp; omega)) | (right; first | omega | (simp; done) | (simp; omega))) _ | with_reducible refine Mod.call0 ?_ (by with_reducible assumption) | with_reducible refine Mod.call ?_ (by with_reducible assumption) (by first | (rintro _ rfl; first | exact .inl rfl | (right; (first | omega | (simp; done) | (simp; omega)))) | (rintro _ (rfl | rfl) <;> (right; (first | omega | (simp; done) | (simp; omega))))))) (fun b hb e => by have := (hL.blk b hb).1; omega), hmr.setCell (.inr hrpw) _⟩, by simp [intOf] <;> omega⟩
                    · obtain rfl : n = j := by omega
                      have c2 := row_cell ho hpk
                      have f2 := ho.frozenAt pk
                      have lq := (ownsRow_blk ho).elim fun _ hc => hc.lt
                      have hs := (ho.stored pk (.int .i64 (f - 1))).1
                      rw [map_set] at hs
                      have hst : q.set pk (f - 1) = stepPt f pt pk := list_getD_ext (by rw [List.length_set, HQL.out, stepPt_length, HLN.out]) fun t ht => by
                        rw [List.length_set, HQL.out] at ht
                        rw [getD_set _ _ _ (by rw [HQL.out]; exact hpk), stepPt_at _ (by rw [HLN.out]; exact ht), HQ.out t ht, if_pos ht]
                      rw [hst] at hs
                      have HS := hide hs
                      have hL2 := hL.far (S := (· = rp)) (w' := wr.setCell ⟨rp, pk, none⟩ (.int .i64 (f - 1))) (by repeat (first | with_reducible exact Mod.refl _ _ | with_reducible assumption | with_reducible refine Mod.alloc ?_ _ | with_reducible refine Mod.drew ?_ | with_reducible refine Mod.drewN ?_ _ | with_reducible refine Mod.setCell ?_ (by first | exact .inl rfl | (left; (try unfold from_); show _ ≤ _; first | omega | (simp; done) | (simp; omega)) | (right; first | omega | (simp; done) | (simp; omega))) _ | with_reducible refine Mod.call0 ?_ (by with_reducible assumption) | with_reducible refine Mod.call ?_ (by with_reducible assumption) (by first | (rintro _ rfl; first | exact .inl rfl | (right; (first | omega | (simp; done) | (simp; omega)))) | (rintro _ (rfl | rfl) <;> (right; (first | omega | (simp; done) | (simp; omega))))))) (fun b hb e => by have := (hL.blk b hb).1; omega)
                      have HL2 := hide hL2
                      have y2 : Mod nowhere w (wr.setCell ⟨rp, pk, none⟩ (.int .i64 (f - 1))) := hmr.setCell (.inr hrpw) _
                      clear hs hst hL2 hL
                      go_wp2_with (at_builtin; refine wpList_append_loc rfl _ _ _ rfl 3 i0 (.int .i64 0) Try.underlying22 hi hz0 hz1 hz2 rfl (rp + 1) u7 i ((stM f n (ws.take i)).2.map (Value.int .i64)) rfl (HL2.out.far (S := nowhere) (by repeat (first | with_reducible exact Mod.refl _ _ | with_reducible assumption | with_reducible refine Mod.alloc ?_ _ | with_reducible refine Mod.drew ?_ | with_reducible refine Mod.drewN ?_ _ | with_reducible refine Mod.setCell ?_ (by first | exact .inl rfl | (left; (try unfold from_); show _ ≤ _; first | omega | (simp; done) | (simp; omega)) | (right; first | omega | (simp; done) | (simp; omega))) _ | with_reducible refine Mod.call0 ?_ (by with_reducible assumption) | with_reducible refine Mod.call ?_ (by with_reducible assumption) (by first | (rintro _ rfl; first | exact .inl rfl | (right; (first | omega | (simp; done) | (simp; omega)))) | (rintro _ (rfl | rfl) <;> (right; (first | omega | (simp; done) | (simp; omega))))))) (fun _ _ h => h)) wr.heap.size (.int .i64 (pk : Int)) rfl (by repeat (first | with_reducible assumption | with_reducible apply Blk.new | with_reducible exact Blk.newAt (by first | rfl | (simp; done) | (simp; omega)) | with_reducible apply Blk.alloc | with_reducible apply Blk.drew | with_reducible apply Blk.drewN | with_reducible apply Blk.keep0 (hm := by with_reducible assumption) | with_reducible apply Blk.keep (hm := by with_reducible assumption) (hg := by first | omega | exact not_two (by omega) (by omega)) | with_reducible apply Blk.far (hp := by first | omega | (simp; done) | (simp; omega)) | with_reducible apply Blk.set1 | rfl)) rfl (by omega) (by simp; omega) ?_; rintro q1 cap1 w9 hq1 mq1 dq1 gq1 lq1)
                      exact ⟨⟨i + 1, by go_num, by omega, by rw [HTK.out, stM_snoc, ← HPTD.out, HPI.out]; exact owns_keep (owns_keep0 HS.out ((Mod.refl _ _).alloc _)) mq1 (fun e => by have := (HL2.out.blk rp e).1; omega), by rw [HTK.out, stM_snoc, ← HPTD.out, HPI.out, List.map_append]; exact hq1, (y2.alloc _).call mq1 (fun b e => .inr (by have := (HL2.out.blk b e).1; omega))⟩, by simp [intOf] <;> omega⟩
          · rw [if_neg hx0] at hpe
            have hpz : p0 = 0 := by simp at hpe; omega
            have HPZ := hide hpz
            clear hpe hpz
            go_wp2_with fail
            (with_reducible refine (refcan_callsZ (some ⟨rp, 0, none⟩) n n wr.heap.size p0 pt 0 wr (by have := HPZ.out; omega) HRD.out (Nat.le_refl _) (by omega) HBD2.out).mono ?_)
            rintro e w6 ⟨rfl, hm6⟩
            by_cases hcan : CanP (qto pt (p0 : Int) n)
            · rw [decide_eq_true hcan]
              have HPI := hide (show pickOf pt n x = p0 from by unfold pickOf; rw [← HP0.out, if_pos hcan])
              clear hcan
              have y6 : Mod nowhere wr w6 := hm6
              have hpk := hp0n
              obtain rfl : p0 = 0 := HPZ.out
              have ho6 := owns_keep0 ho y6
              have L6 := HLr.out.keep0 y6
              have yW : Mod nowhere w w6 := hmr.call0 y6
              clear ho hmr y6
              go_wp2_with fail
              go_loopw [13] (fun s13 wx => ∃ (j : Nat) (q : List Int), s13 = .int .i64 j ∧ j ≤ n ∧ wx.ownsRow 0 3 1 (.slice (some ⟨rp, 0, none⟩) n n) n (q.map (Value.int .i64)) ∧ q.length = n ∧ (∀ t, t < n → q.getD t 0 = if t < j then pt.getD t 0 - 1 else pt.getD t 0) ∧ LocRow wx (rp + 1) 3 1 u7 i ((stM f n (ws.take i)).2.map (Value.int .i64)) ∧ Mod nowhere w wx)
                (fun s13 _ => (300 - (intOf s13)).toNat)
              case atStart => exact ⟨0, pt, rfl, Nat.zero_le _, ho6, HLN.out, fun t ht => by simp, L6, yW⟩
              case round =>
                clear ho6 L6 yW
                obtain ⟨j, q, rfl, hj, ho, hql, hq, hL, hmr⟩ := hrel
                have HQ := hide hq
                have HQL := hide hql
                clear hq hql
                by_cases hjn : j < n
                · have hv : q.getD j 0 = pt.getD j 0 := by rw [HQ.out j hjn, if_neg (by omega)]
                  have c1 := row_cell ho hjn
                  rw [hv] at c1
                  have hbj := HBD2.out j hjn
                  have f1 := ho.frozenAt j
                  have hs := (ho.stored j (.int .i64 (pt.getD j 0 - 1))).1
                  rw [map_set] at hs
                  have HS := hide hs
                  generalize hgv : pt.getD j 0 = gv at c1 hbj HS
                  clear hs hv
                  go_wp2
                  exact ⟨⟨j + 1, q.set j (gv - 1), by go_num, by omega, HS.out, by rw [List.length_set]; exact HQL.out, fun t ht => by
                    rw [getD_set _ _ _ (by have := HQL.out; omega)]
                    by_cases e : t = j
                    · subst e; rw [if_pos rfl, if_pos (by omega), hgv]
                    · rw [if_neg e, HQ.out t ht]
                      by_cases e2 : t < j
                      · rw [if_pos e2, if_pos (by omega)]
                      · rw [if_neg e2, if_neg (by omega)], hL.far (S := (· = rp)) (by repeat (first | with_reducible exact Mod.refl _ _ | with_reducible assumption | with_reducible refine Mod.alloc ?_ _ | with_reducible refine Mod.drew ?_ | with_reducible refine Mod.drewN ?_ _ | with_reducible refine Mod.setCell ?_ (by first | exact .inl rfl | (left; (try unfold from_); show _ ≤ _; first | omega | (simp; done) | (simp; omega)) | (right; first | omega | (simp; done) | (simp; omega))) _ | with_reducible refine Mod.call0 ?_ (by with_reducible assumption) | with_reducible refine Mod.call ?_ (by with_reducible assumption) (by first | (rintro _ rfl; first | exact .inl rfl | (right; (first | omega | (simp; done) | (simp; omega)))) | (rintro _ (rfl | rfl) <;> (right; (first | omega | (simp; done) | (simp; omega))))))) (fun b hb e => by have := (hL.blk b hb).1; omega), hmr.setCell (.inr hrpw) _⟩, by simp [intOf] <;> omega⟩
                · obtain rfl : n = j := by omega
                  have c2 := row_cell ho hpk
                  have f2 := ho.frozenAt 0
                  have lq := (ownsRow_blk ho).elim fun _ hc => hc.lt
                  have hs := (ho.stored 0 (.int .i64 (f - 1))).1
                  rw [map_set] at hs
                  have hst : q.set 0 (f - 1) = stepPt f pt 0 := list_getD_ext (by rw [List.length_set, HQL.out, stepPt_length, HLN.out]) fun t ht => by
                    rw [List.length_set, HQL.out] at ht
                    rw [getD_set _ _ _ (by rw [HQL.out]; exact hpk), stepPt_at _ (by rw [HLN.out]; exact ht), HQ.out t ht, if_pos ht]
                  rw [hst] at hs
                  have HS := hide hs
                  have hL2 := hL.far (S := (· = rp)) (w' := wr.setCell ⟨rp, 0, none⟩ (.int .i64 (f - 1))) (by repeat (first | with_reducible exact Mod.refl _ _ | with_reducible assumption | with_reducible refine Mod.alloc ?_ _ | with_reducible refine Mod.drew ?_ | with_reducible refine Mod.drewN ?_ _ | with_reducible refine Mod.setCell ?_ (by first | exact .inl rfl | (left; (try unfold from_); show _ ≤ _; first | omega | (simp; done) | (simp; omega)) | (right; first | omega | (simp; done) | (simp; omega))) _ | with_reducible refine Mod.call0 ?_ (by with_reducible assumption) | with_reducible refine Mod.call ?_ (by with_reducible assumption) (by first | (rintro _ rfl; first | exact .inl rfl | (right; (first | omega | (simp; done) | (simp; omega)))) | (rintro _ (rfl | rfl) <;> (right; (first | omega | (simp; done) | (simp; omega))))))) (fun b hb e => by have := (hL.blk b hb).1; omega)
                  have HL2 := hide hL2
                  have y2 : Mod nowhere w (wr.setCell ⟨rp, 0, none⟩ (.int .i64 (f - 1))) := hmr.setCell (.inr hrpw) _
                  clear hs hst hL2 hL
                  go_wp2_with (at_builtin; refine wpList_append_loc rfl _ _ _ rfl 3 i0 (.int .i64 0) Try.underlying22 hi hz0 hz1 hz2 rfl (rp + 1) u7 i ((stM f n (ws.take i)).2.map (Value.int .i64)) rfl (HL2.out.far (S := nowhere) (by repeat (first | with_reducible exact Mod.refl _ _ | with_reducible assumption | with_reducible refine Mod.alloc ?_ _ | with_reducible refine Mod.drew ?_ | with_reducible refine Mod.drewN ?_ _ | with_reducible refine Mod.setCell ?_ (by first | exact .inl rfl | (left; (try unfold from_); show _ ≤ _; first | omega | (simp; done) | (simp; omega)) | (right; first | omega | (simp; done) | (simp; omega))) _ | with_reducible refine Mod.call0 ?_ (by with_reducible assumption) | with_reducible refine Mod.call ?_ (by with_reducible assumption) (by first | (rintro _ rfl; first | exact .inl rfl | (right; (first | omega | (simp; done) | (simp; omega)))) | (rintro _ (rfl | rfl) <;> (right; (first | omega | (simp; done) | (simp; omega))))))) (fun _ _ h => h)) wr.heap.size (.int .i64 (0 : Int)) rfl (by repeat (first | with_reducible assumption | with_reducible apply Blk.new | with_reducible exact Blk.newAt (by first | rfl | (simp; done) | (simp; omega)) | with_reducible apply Blk.alloc | with_reducible apply Blk.drew | with_reducible apply Blk.drewN | with_reducible apply Blk.keep0 (hm := by with_reducible assumption) | with_reducible apply Blk.keep (hm := by with_reducible assumption) (hg := by first | omega | exact not_two (by omega) (by omega)) | with_reducible apply Blk.far (hp := by first | omega | (simp; done) | (simp; omega)) | with_reducible apply Blk.set1 | rfl)) rfl (by omega) (by simp; omega) ?_; rintro q1 cap1 w9 hq1 mq1 dq1 gq1 lq1)
                  exact ⟨⟨i + 1, by go_num, by omega, by rw [HTK.out, stM_snoc, ← HPTD.out, HPI.out]; exact owns_keep (owns_keep0 HS.out ((Mod.refl _ _).alloc _)) mq1 (fun e => by have := (HL2.out.blk rp e).1; omega), by rw [HTK.out, stM_snoc, ← HPTD.out, HPI.out, List.map_append]; exact hq1, (y2.alloc _).call mq1 (fun b e => .inr (by have := (HL2.out.blk b e).1; omega))⟩, by simp [intOf] <;> omega⟩
            · rw [decide_eq_false hcan]
              have HNC := hide hcan
              clear hcan
              have ho6 := owns_keep0 ho hm6
              have L6 := HLr.out.keep0 hm6
              have yW : Mod nowhere w w6 := hmr.call0 hm6
              clear ho hmr
              go_wp2_with fail
              go_loopw [11, 12] (fun s11 s12 wx => ∃ (t : Nat), s12 = .int .i64 t ∧ 1 ≤ t ∧ t ≤ n ∧ s11 = .int .i64 (minAt pt t) ∧ wx.ownsRow 0 3 1 (.slice (some ⟨rp, 0, none⟩) n n) n (pt.map (Value.int .i64)) ∧ LocRow wx (rp + 1) 3 1 u7 i ((stM f n (ws.take i)).2.map (Value.int .i64)) ∧ Mod nowhere w wx)
                (fun _ s12 _ => (300 - (intOf s12)).toNat)
              case atStart => exact ⟨1, rfl, Nat.le_refl _, h1, by simp [minAt], ho6, L6, yW⟩
              case round =>
                clear ho6 L6 yW
                obtain ⟨t, rfl, ht1, htn, rfl, ho, hL, hmr⟩ := hrel
                by_cases hlt2 : t < n
                · have hlt2' : (t : Int) < (n : Int) := by omega
                  have hmt := minAt_lt pt (show 0 < t by omega)
                  have hsu : minAt pt (t + 1) = if pt.getD t 0 < pt.getD (minAt pt t) 0 then t else minAt pt t := rfl
                  have HSU := hide hsu
                  have HLL := hide hL
                  have c1 := row_cell ho hlt2
                  have c2 := row_cell ho (show minAt pt t < n by omega)
                  generalize hmm : minAt pt t = mm at *
                  generalize hv1 : pt.getD t 0 = v1 at *
                  generalize hv2 : pt.getD mm 0 = v2 at *
                  clear hsu hL
                  by_cases hv : v1 < v2
                  · go_wp2_with fail
                    go_region
                    all_goals go_wp2
                    all_goals go_roundw
                    case rel => exact ⟨t + 1, by go_num, by omega, by omega, by rw [HSU.out, if_pos hv], ho, HLL.out, hmr.drew⟩
                    case measure => simp [intOf] <;> omega
                  · go_wp2_with fail
                    go_region
                    all_goals go_wp2
                    all_goals go_roundw
                    case rel => exact ⟨t + 1, by go_num, by omega, by omega, by rw [HSU.out, if_neg (by omega)], ho, HLL.out, hmr.drew⟩
                    case measure => simp [intOf] <;> omega
                · obtain rfl : n = t := by omega
                  have HPI := hide (show pickOf pt n x = minAt pt n from by unfold pickOf; rw [← HP0.out, if_neg HNC.out])
                  have hpk := minAt_lt pt (show 0 < n by omega)
                  have hL9 := hL
                  generalize minAt pt n = pk at *
                  go_wp2_with fail
                  go_loopw [13] (fun s13 wx => ∃ (j : Nat) (q : List Int), s13 = .int .i64 j ∧ j ≤ n ∧ wx.ownsRow 0 3 1 (.slice (some ⟨rp, 0, none⟩) n n) n (q.map (Value.int .i64)) ∧ q.length = n ∧ (∀ t, t < n → q.getD t 0 = if t < j then pt.getD t 0 - 1 else pt.getD t 0) ∧ LocRow wx (rp + 1) 3 1 u7 i ((stM f n (ws.take i)).2.map (Value.int .i64)) ∧ Mod nowhere w wx)
                    (fun s13 _ => (300 - (intOf s13)).toNat)
                  case atStart => exact ⟨0, pt, rfl, Nat.zero_le _, ho, HLN.out, fun t ht => by simp, hL9, hmr⟩
                  case round =>
                    clear ho hL hL9 hmr
                    obtain ⟨j, q, rfl, hj, ho, hql, hq, hL, hmr⟩ := hrel
                    have HQ := hide hq
                    have HQL := hide hql
                    clear hq hql
                    by_cases hjn : j < n
                    · have hv : q.getD j 0 = pt.getD j 0 := by rw [HQ.out j hjn, if_neg (by omega)]
                      have c1 := row_cell ho hjn
                      rw [hv] at c1
                      have hbj := HBD2.out j hjn
                      have f1 := ho.frozenAt j
                      have hs := (ho.stored j (.int .i64 (pt.getD j 0 - 1))).1
                      rw [map_set] at hs
                      have HS := hide hs
                      generalize hgv : pt.getD j 0 = gv at c1 hbj HS
                      clear hs hv
                      go_wp2
                      exact ⟨⟨j + 1, q.set j (gv - 1), by go_num, by omega, HS.out, by rw [List.length_set]; exact HQL.out, fun t ht => by
                        rw [getD_set _ _ _ (by have := HQL.out; omega)]
                        by_cases e : t = j
                        · subst e; rw [if_pos rfl, if_pos (by omega), hgv]
                        · rw [if_neg e, HQ.out t ht]
                          by_cases e2 : t < j
                          · rw [if_pos e2, if_pos (by omega)]
                          · rw [if_neg e2, if_neg (by omega)], hL.far (S := (· = rp)) (by repeat (first | with_reducible exact Mod.refl _ _ | with_reducible assumption | with_reducible refine Mod.alloc ?_ _ | with_reducible refine Mod.drew ?_ | with_reducible refine Mod.drewN ?_ _ | with_reducible refine Mod.setCell ?_ (by first | exact .inl rfl | (left; (try unfold from_); show _ ≤ _; first | omega | (simp; done) | (simp; omega)) | (right; first | omega | (simp; done) | (simp; omega))) _ | with_reducible refine Mod.call0 ?_ (by with_reducible assumption) | with_reducible refine Mod.call ?_ (by with_reducible assumption) (by first | (rintro _ rfl; first | exact .inl rfl | (right; (first | omega | (simp; done) | (simp; omega)))) | (rintro _ (rfl | rfl) <;> (right; (first | omega | (simp; done) | (simp; omega))))))) (fun b hb e => by have := (hL.blk b hb).1; omega), hmr.setCell (.inr hrpw) _⟩, by simp [intOf] <;> omega⟩
                    · obtain rfl : n = j := by omega
                      have c2 := row_cell ho hpk
                      have f2 := ho.frozenAt pk
                      have lq := (ownsRow_blk ho).elim fun _ hc => hc.lt
                      have hs := (ho.stored pk (.int .i64 (f - 1))).1
                      rw [map_set] at hs
                      have hst : q.set pk (f - 1) = stepPt f pt pk := list_getD_ext (by rw [List.length_set, HQL.out, stepPt_length, HLN.out]) fun t ht => by
                        rw [List.length_set, HQL.out] at ht
                        rw [getD_set _ _ _ (by rw [HQL.out]; exact hpk), stepPt_at _ (by rw [HLN.out]; exact ht), HQ.out t ht, if_pos ht]
                      rw [hst] at hs
                      have HS := hide hs
                      have hL2 := hL.far (S := (· = rp)) (w' := wr.setCell ⟨rp, pk, none⟩ (.int .i64 (f - 1))) (by repeat (first | with_reducible exact Mod.refl _ _ | with_reducible assumption | with_reducible refine Mod.alloc ?_ _ | with_reducible refine Mod.drew ?_ | with_reducible refine Mod.drewN ?_ _ | with_reducible refine Mod.setCell ?_ (by first | exact .inl rfl | (left; (try unfold from_); show _ ≤ _; first | omega | (simp; done) | (simp; omega)) | (right; first | omega | (simp; done) | (simp; omega))) _ | with_reducible refine Mod.call0 ?_ (by with_reducible assumption) | with_reducible refine Mod.call ?_ (by with_reducible assumption) (by first | (rintro _ rfl; first | exact .inl rfl | (right; (first | omega | (simp; done) | (simp; omega)))) | (rintro _ (rfl | rfl) <;> (right; (first | omega | (simp; done) | (simp; omega))))))) (fun b hb e => by have := (hL.blk b hb).1; omega)
                      have HL2 := hide hL2
                      have y2 : Mod nowhere w (wr.setCell ⟨rp, pk, none⟩ (.int .i64 (f - 1))) := hmr.setCell (.inr hrpw) _
                      clear hs hst hL2 hL
                      go_wp2_with (at_builtin; refine wpList_append_loc rfl _ _ _ rfl 3 i0 (.int .i64 0) Try.underlying22 hi hz0 hz1 hz2 rfl (rp + 1) u7 i ((stM f n (ws.take i)).2.map (Value.int .i64)) rfl (HL2.out.far (S := nowhere) (by repeat (first | with_reducible exact Mod.refl _ _ | with_reducible assumption | with_reducible refine Mod.alloc ?_ _ | with_reducible refine Mod.drew ?_ | with_reducible refine Mod.drewN ?_ _ | with_reducible refine Mod.setCell ?_ (by first | exact .inl rfl | (left; (try unfold from_); show _ ≤ _; first | omega | (simp; done) | (simp; omega)) | (right; first | omega | (simp; done) | (simp; omega))) _ | with_reducible refine Mod.call0 ?_ (by with_reducible assumption) | with_reducible refine Mod.call ?_ (by with_reducible assumption) (by first | (rintro _ rfl; first | exact .inl rfl | (right; (first | omega | (simp; done) | (simp; omega)))) | (rintro _ (rfl | rfl) <;> (right; (first | omega | (simp; done) | (simp; omega))))))) (fun _ _ h => h)) wr.heap.size (.int .i64 (pk : Int)) rfl (by repeat (first | with_reducible assumption | with_reducible apply Blk.new | with_reducible exact Blk.newAt (by first | rfl | (simp; done) | (simp; omega)) | with_reducible apply Blk.alloc | with_reducible apply Blk.drew | with_reducible apply Blk.drewN | with_reducible apply Blk.keep0 (hm := by with_reducible assumption) | with_reducible apply Blk.keep (hm := by with_reducible assumption) (hg := by first | omega | exact not_two (by omega) (by omega)) | with_reducible apply Blk.far (hp := by first | omega | (simp; done) | (simp; omega)) | with_reducible apply Blk.set1 | rfl)) rfl (by omega) (by simp; omega) ?_; rintro q1 cap1 w9 hq1 mq1 dq1 gq1 lq1)
                      exact ⟨⟨i + 1, by go_num, by omega, by rw [HTK.out, stM_snoc, ← HPTD.out, HPI.out]; exact owns_keep (owns_keep0 HS.out ((Mod.refl _ _).alloc _)) mq1 (fun e => by have := (HL2.out.blk rp e).1; omega), by rw [HTK.out, stM_snoc, ← HPTD.out, HPI.out, List.map_append]; exact hq1, (y2.alloc _).call mq1 (fun b e => .inr (by have := (HL2.out.blk b e).1; omega))⟩, by simp [intOf] <;> omega⟩
        · obtain rfl : m = i := by omega
          have htk : ws.take m = ws := List.take_of_length_le (by rw [HL.out]; omega)
          rw [htk] at hL
          go_wp2
          go_ret
          exact ⟨_, rfl, hL.weaken (by omega), hmr⟩
end Go.Proofs.Ytffeidjalphemaa
