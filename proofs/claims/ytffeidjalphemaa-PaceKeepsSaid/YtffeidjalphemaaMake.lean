/- Make, walked. -/
import Derived.Test.YtffeidjalphemaaLoc
namespace Go.Proofs.Ytffeidjalphemaa
open Go.RowKit

theorem run_max2 (ts : Array TypeId) (t : TypeId) (a b : Int) (w : World) : (Builtin.max_ ts t #[.int .i64 a, .int .i64 b]).run Try.prog w = .ok (.int .i64 (if a < b then b else a)) w := by
  rfl
theorem within_calls (n : Int) (w : World) :
    Calls Try.prog 17 #[.int .i64 n] w fun e w' => e = .returned (.bool (decide (1 ≤ n ∧ n ≤ 6))) ∧ Mod nowhere w w' := by
  by_cases h : 1 ≤ n
  · have e : decide (1 ≤ n ∧ n ≤ 6) = decide (n ≤ 6) := by simp [h]
    rw [e]
    go_enter Try.func17, Try.ntmps17
    go_wp2
    go_ret
    exact ⟨rfl, (by repeat (first | with_reducible exact Mod.refl _ _ | with_reducible assumption | with_reducible refine Mod.alloc ?_ _ | with_reducible refine Mod.drew ?_ | with_reducible refine Mod.drewN ?_ _ | with_reducible refine Mod.setCell ?_ (by first | exact .inl rfl | (left; (try unfold from_); show _ ≤ _; first | omega | (simp; done) | (simp; omega)) | (right; first | omega | (simp; done) | (simp; omega))) _ | with_reducible refine Mod.call0 ?_ (by with_reducible assumption) | with_reducible refine Mod.call ?_ (by with_reducible assumption) (by first | (rintro _ rfl; first | exact .inl rfl | (right; (first | omega | (simp; done) | (simp; omega)))) | (rintro _ (rfl | rfl) <;> (right; (first | omega | (simp; done) | (simp; omega)))))))⟩
  · have e : decide (1 ≤ n ∧ n ≤ 6) = false := by simp [h]
    rw [e]
    go_enter Try.func17, Try.ntmps17
    go_wp2
    go_ret
    exact ⟨rfl, (by repeat (first | with_reducible exact Mod.refl _ _ | with_reducible assumption | with_reducible refine Mod.alloc ?_ _ | with_reducible refine Mod.drew ?_ | with_reducible refine Mod.drewN ?_ _ | with_reducible refine Mod.setCell ?_ (by first | exact .inl rfl | (left; (try unfold from_); show _ ≤ _; first | omega | (simp; done) | (simp; omega)) | (right; first | omega | (simp; done) | (simp; omega))) _ | with_reducible refine Mod.call0 ?_ (by with_reducible assumption) | with_reducible refine Mod.call ?_ (by with_reducible assumption) (by first | (rintro _ rfl; first | exact .inl rfl | (right; (first | omega | (simp; done) | (simp; omega)))) | (rintro _ (rfl | rfl) <;> (right; (first | omega | (simp; done) | (simp; omega)))))))⟩
theorem qto_all {pt : List Int} {but : Int} {n s : Nat} (hs : s < n) (hb : (s : Int) ≠ but) : ((s : Int), pt.getD s 0) ∈ qto pt but n := by
  induction n with
  | zero => omega
  | succ n ih =>
    unfold qto
    by_cases e : s = n
    · subst e; rw [if_neg hb]; simp
    · have := ih (by omega)
      split
      · exact this
      · exact List.mem_append_left _ this
theorem getD_set (l : List Int) {k : Nat} (x : Int) (t : Nat) (hk : k < l.length) : (l.set k x).getD t 0 = if t = k then x else l.getD t 0 := by
  simp only [List.getD_eq_getElem?_getD, List.getElem?_set]
  by_cases e : k = t
  · subst e; simp [hk]
  · rw [if_neg e, if_neg (Ne.symm e)]
theorem map_set (l : List Int) (k : Nat) (x : Int) : (l.map (Value.int .i64)).set k (.int .i64 x) = (l.set k x).map (Value.int .i64) := by rw [List.map_set]
theorem list_getD_ext {l m : List Int} (h : l.length = m.length) (e : ∀ t, t < l.length → l.getD t 0 = m.getD t 0) : l = m := by
  refine List.ext_getElem h fun t h1 h2 => ?_
  have := e t h1
  simpa [List.getD_eq_getElem?_getD, h1, h2] using this
theorem row_cell {w : World} {q n cap t : Nat} {pt : List Int} (h : w.ownsRow 0 3 1 (.slice (some ⟨q, 0, none⟩) n cap) n (pt.map (Value.int .i64))) (ht : t < n) : w.cell? ⟨q, t, none⟩ = some (.int .i64 (pt.getD t 0)) := by
  have hl : pt.length = n := by have := h.1; simpa using this
  rw [h.cellAt t (by omega), List.getElem?_map, List.getElem?_eq_getElem (by omega)]
  simp [List.getD_eq_getElem?_getD, hl, ht]

theorem LocRow.weaken {w : World} {H H' : Nat} {E : TypeId} {size : Nat} {v : Value} {n : Nat} {cs : List Value} (h : LocRow w H E size v n cs) (hH : H' ≤ H) : LocRow w H' E size v n cs := by
  obtain ⟨A, cap, rfl, ho, hA⟩ := h
  exact ⟨A, cap, rfl, ho, hA.imp id fun ⟨q, h1, h2⟩ => ⟨q, h1, by omega⟩⟩
set_option maxRecDepth 100000 in
set_option maxHeartbeats 8000000 in
theorem make_calls (A : Option Addr) (m c B n : Nat) (ws : List Int) (f : Int) (w : World) (hr : Reads w B 1 A m (ws.map (Value.int .i64))) (hB : B ≤ w.heap.size) (hl : ws.length = m) (hm : m ≤ 400) (h1 : 1 ≤ n) (h6 : n ≤ 6) (hf : (n : Int) ≤ f) (hfi : f ≤ 9223372036854775807) :
    Calls Try.prog 14 #[.slice A m c, .int .i64 n, .int .i64 f] w fun e w' => ∃ z, e = .returned (.tuple #[z, .int .i64 0]) ∧ LocRow w' w.heap.size 3 1 z m ((stM f n ws).2.map (Value.int .i64)) ∧ Mod nowhere w w' := by
  have HR := hide hr
  have HL := hide hl
  clear hr hl
  obtain ⟨i0, hi, hz0, hz1, hz2⟩ := info_parts ainfo_int
  have hw : decide (1 ≤ (n : Int) ∧ (n : Int) ≤ 6) = true := by simp; omega
  go_enter Try.func14, Try.ntmps14
  go_wp2_with fail
  (with_reducible refine (within_calls (n : Int) _).mono ?_)
  rintro e w5 ⟨rfl, hm5⟩
  rw [hw]
  obtain ⟨wm, hmk, hom, hgm⟩ := run_make_full (P := Try.prog) w5 0 22 3 i0 (.int .i64 0) 1 Try.underlying22 hi hz0 hz1 .i64 .i64 n (by rw [hz2]; omega) (by unfold maxLen; omega) (Nat.zero_le _)
  have hz5 := hm5.size
  have mm : Mod nowhere w5 wm := (Mod.of_grown hgm).mono fun b hb => by cases hb
  have ym : Mod nowhere w wm := hm5.call0 mm
  obtain ⟨pt0, hpt0, hom0⟩ : ∃ pt0 : List Int, pt0.length = n ∧ wm.ownsRow 0 3 1 (.slice (some ⟨w5.heap.size, 0, none⟩) n n) n (pt0.map (Value.int .i64)) :=
    ⟨List.replicate n 0, by simp, by rw [List.map_replicate]; rw [Nat.mul_one, show (Value.int .i64 0).cells = #[.int .i64 0] from rfl, toList_madeCells_one] at hom; exact hom⟩
  generalize hrp : w5.heap.size = rp at hmk hom0
  have hrpw : w.heap.size ≤ rp := by omega
  clear hom hgm
  go_wp2_with fail
  go_loopw [9, 27] (fun _ s27 wx => ∃ (j : Nat) (pt : List Int), s27 = .int .i64 j ∧ j ≤ n ∧ wx.ownsRow 0 3 1 (.slice (some ⟨rp, 0, none⟩) n n) n (pt.map (Value.int .i64)) ∧ pt.length = n ∧ (∀ t, t < j → pt.getD t 0 = f - 1) ∧ Mod nowhere w wx)
    (fun _ s27 _ => (300 - (intOf s27)).toNat)
  case atStart => exact ⟨0, pt0, rfl, Nat.zero_le _, hom0, hpt0, fun t h => absurd h (by omega), ym⟩
  case round =>
    obtain ⟨j, pt, rfl, hj, ho, hpl, hpt, hmr⟩ := hrel
    have HPT := hide hpt
    have HPL := hide hpl
    clear hpt hpl
    by_cases hlt : j < n
    · have c1 := row_cell ho hlt
      have f1 := ho.frozenAt j
      go_wp2
      have hs := (ho.stored j (.int .i64 (f - 1))).1
      rw [map_set] at hs
      exact ⟨⟨j + 1, pt.set j (f - 1), by go_num, by omega, hs, by rw [List.length_set]; exact HPL.out, fun t ht => by rw [getD_set _ _ _ (by have := HPL.out; omega)]; split <;> first | rfl | exact HPT.out t (by omega), hmr.setCell (.inr hrpw) _⟩, by simp [intOf] <;> omega⟩
    · obtain rfl : n = j := by omega
      have hrep : pt = List.replicate n (f - 1) := list_getD_ext (by rw [HPL.out]; simp) fun t ht => by
        rw [HPL.out] at ht
        rw [HPT.out t ht]
        simp [List.getD_eq_getElem?_getD, ht]
      subst hrep
      go_wp2_with fail
      go_loopw [10, 12, 13, 14, 38, 57] (fun s10 _ _ _ s38 _ wx => ∃ (i : Nat), s38 = .int .i64 i ∧ i ≤ m ∧ wx.ownsRow 0 3 1 (.slice (some ⟨rp, 0, none⟩) n n) n ((stM f n (ws.take i)).1.map (Value.int .i64)) ∧ LocRow wx (rp + 1) 3 1 s10 i ((stM f n (ws.take i)).2.map (Value.int .i64)) ∧ Mod nowhere w wx)
        (fun _ _ _ _ s38 _ _ => (2000 - (intOf s38)).toNat)
      case atStart => exact ⟨0, rfl, Nat.zero_le _, ho, LocRow.nil _ _ _ _, hmr⟩
      case round =>
        clear ho HPL HPT hmr
        obtain ⟨i, rfl, him, ho, hL, hmr⟩ := hrel
        have hsz := hmr.size
        by_cases hlt : i < m
        · obtain ⟨b, o, hAe, hb, hc⟩ := reads_cell HR.out hB (hmr.mono fun _ x => x.elim) hlt
          obtain ⟨x, hx⟩ : ∃ x, ws[i]? = some x := ⟨_, List.getElem?_eq_getElem (show i < ws.length by have := HL.out; omega)⟩
          have htk : ws.take (i + 1) = ws.take i ++ [x] := by rw [List.take_add_one, hx]; rfl
          rw [show ws.getD i 0 = x by rw [List.getD_eq_getElem?_getD, hx]; rfl] at hc
          have hbr : b < wr.heap.size := by omega
          have hbd := stM_bound f n (ws.take i)
          have hln := (stM_len f n (ws.take i)).1
          have hti : (ws.take i).length = i := by rw [List.length_take]; have := HL.out; omega
          rw [hti] at hbd
          obtain ⟨pt, hptd⟩ : ∃ pt, pt = (stM f n (ws.take i)).1 := ⟨_, rfl⟩
          rw [← hptd] at ho hbd hln
          have HPTD := hide hptd
          have HTK := hide htk
          have HLr := hide hL
          have HBD := hide hbd
          have HLN := hide hln
          have hrd : Reads wr wr.heap.size 1 (some ⟨rp, 0, none⟩) n (pt.map (Value.int .i64)) := Reads.of_own ho
          have hbd2 : ∀ t, t < n → -1000000 ≤ pt.getD t 0 ∧ pt.getD t 0 ≤ 9223372036854775807 := fun t ht => by have := hbd t ht; omega
          have HRD := hide hrd
          have HBD2 := hide hbd2
          obtain ⟨wp, hwp⟩ : ∃ wp, wp = (if 0 < x then x else 0) := ⟨_, rfl⟩
          have hwp0 : 0 ≤ wp := by rw [hwp]; split <;> omega
          have hmax : ∀ ts t W, (Builtin.max_ ts t #[.int .i64 0, .int .i64 x]).run Try.prog W = .ok (.int .i64 wp) W := fun ts t W => by rw [hwp]; exact run_max2 ts t 0 x W
          obtain ⟨p0, hp0⟩ : ∃ p0, p0 = pickW n x := ⟨_, rfl⟩
          have hrem : wp % (n : Int) = (p0 : Int) := by rw [hwp, hp0]; exact pickW_eq (by omega) x
          have hp0n : p0 < n := by rw [hp0]; exact pickW_lt (by omega) x
          have HP0 := hide hp0
          subst hAe
          clear hx htk hptd hL hbd hln hti hrd hbd2 hwp hp0
          go_wp2_with fail
          (with_reducible refine (can_calls (some ⟨rp, 0, none⟩) n n wr.heap.size pt (p0 : Int) wr HRD.out (Nat.le_refl _) (by omega) HBD2.out).mono ?_)
          rintro e w6 ⟨rfl, hm6⟩
          by_cases hcan : CanP (qto pt (p0 : Int) n)
          · rw [decide_eq_true hcan]
            have HPI := hide (show pickOf pt n x = p0 from by unfold pickOf; rw [← HP0.out, if_pos hcan])
            clear hcan
            have y6 : Mod nowhere wr w6 := hm6
            have hpk := hp0n
            generalize p0 = pk at *
            have ho6 := owns_keep0 ho y6
            have L6 := HLr.out.keep0 y6
            have yW : Mod nowhere w w6 := hmr.call0 y6
            clear ho hmr y6
            go_wp2_with fail
            go_loopw [14, 57] (fun _ s57 wx => ∃ (j : Nat) (q : List Int), s57 = .int .i64 j ∧ j ≤ n ∧ wx.ownsRow 0 3 1 (.slice (some ⟨rp, 0, none⟩) n n) n (q.map (Value.int .i64)) ∧ q.length = n ∧ (∀ t, t < n → q.getD t 0 = if t < j then pt.getD t 0 - 1 else pt.getD t 0) ∧ LocRow wx (rp + 1) 3 1 u10 i ((stM f n (ws.take i)).2.map (Value.int .i64)) ∧ Mod nowhere w wx)
              (fun _ s57 _ => (300 - (intOf s57)).toNat)
            case atStart => exact ⟨0, pt, rfl, Nat.zero_le _, ho6, HLN.out, fun t ht => by simp, L6, yW⟩
            case round =>
              clear ho6 L6 yW
              obtain ⟨j, q, rfl, hj, ho, hql, hq, hL, hmr⟩ := hrel
              have HQ := hide hq
              have HQL := hide hql
              clear hq hql
              by_cases hjn : j < n
              · have hv : q.getD j 0 = pt.getD j 0 := by rw [HQ.out j hjn, if_neg (by omega)]
                have c1 := row_cell ho hjn
                rw [hv] at c1
                have hbj := HBD2.out j hjn
                have f1 := ho.frozenAt j
                have hs := (ho.stored j (.int .i64 (pt.getD j 0 - 1))).1
                rw [map_set] at hs
                have HS := hide hs
                generalize hgv : pt.getD j 0 = gv at c1 hbj HS
                clear hs hv
                go_wp2
                exact ⟨⟨j + 1, q.set j (gv - 1), by go_num, by omega, HS.out, by rw [List.length_set]; exact HQL.out, fun t ht => by
                  rw [getD_set _ _ _ (by have := HQL.out; omega)]
                  by_cases e : t = j
                  · subst e; rw [if_pos rfl, if_pos (by omega), hgv]
                  · rw [if_neg e, HQ.out t ht]
                    by_cases e2 : t < j
                    · rw [if_pos e2, if_pos (by omega)]
                    · rw [if_neg e2, if_neg (by omega)], hL.far (S := (· = rp)) (by repeat (first | with_reducible exact Mod.refl _ _ | with_reducible assumption | with_reducible refine Mod.alloc ?_ _ | with_reducible refine Mod.drew ?_ | with_reducible refine Mod.drewN ?_ _ | with_reducible refine Mod.setCell ?_ (by first | exact .inl rfl | (left; (try unfold from_); show _ ≤ _; first | omega | (simp; done) | (simp; omega)) | (right; first | omega | (simp; done) | (simp; omega))) _ | with_reducible refine Mod.call0 ?_ (by with_reducible assumption) | with_reducible refine Mod.call ?_ (by with_reducible assumption) (by first | (rintro _ rfl; first | exact .inl rfl | (right; (first | omega | (simp; done) | (simp; omega)))) | (rintro _ (rfl | rfl) <;> (right; (first | omega | (simp; done) | (simp; omega))))))) (fun b hb e => by have := (hL.blk b hb).1; omega), hmr.setCell (.inr hrpw) _⟩, by simp [intOf] <;> omega⟩
              · obtain rfl : n = j := by omega
                have c2 := row_cell ho hpk
                have f2 := ho.frozenAt pk
                have lq := (ownsRow_blk ho).elim fun _ hc => hc.lt
                have hs := (ho.stored pk (.int .i64 (f - 1))).1
                rw [map_set] at hs
                have hst : q.set pk (f - 1) = stepPt f pt pk := list_getD_ext (by rw [List.length_set, HQL.out, stepPt_length, HLN.out]) fun t ht => by
                  rw [List.length_set, HQL.out] at ht
                  rw [getD_set _ _ _ (by rw [HQL.out]; exact hpk), stepPt_at _ (by rw [HLN.out]; exact ht), HQ.out t ht, if_pos ht]
                rw [hst] at hs
                have HS := hide hs
                have hL2 := hL.far (S := (· = rp)) (w' := wr.setCell ⟨rp, pk, none⟩ (.int .i64 (f - 1))) (by repeat (first | with_reducible exact Mod.refl _ _ | with_reducible assumption | with_reducible refine Mod.alloc ?_ _ | with_reducible refine Mod.drew ?_ | with_reducible refine Mod.drewN ?_ _ | with_reducible refine Mod.setCell ?_ (by first | exact .inl rfl | (left; (try unfold from_); show _ ≤ _; first | omega | (simp; done) | (simp; omega)) | (right; first | omega | (simp; done) | (simp; omega))) _ | with_reducible refine Mod.call0 ?_ (by with_reducible assumption) | with_reducible refine Mod.call ?_ (by with_reducible assumption) (by first | (rintro _ rfl; first | exact .inl rfl | (right; (first | omega | (simp; done) | (simp; omega)))) | (rintro _ (rfl | rfl) <;> (right; (first | omega | (simp; done) | (simp; omega))))))) (fun b hb e => by have := (hL.blk b hb).1; omega)
                have HL2 := hide hL2
                have y2 : Mod nowhere w (wr.setCell ⟨rp, pk, none⟩ (.int .i64 (f - 1))) := hmr.setCell (.inr hrpw) _
                clear hs hst hL2 hL
                go_wp2_with (at_builtin; refine wpList_append_loc rfl _ _ _ rfl 3 i0 (.int .i64 0) Try.underlying22 hi hz0 hz1 hz2 rfl (rp + 1) u10 i ((stM f n (ws.take i)).2.map (Value.int .i64)) rfl (HL2.out.far (S := nowhere) (by repeat (first | with_reducible exact Mod.refl _ _ | with_reducible assumption | with_reducible refine Mod.alloc ?_ _ | with_reducible refine Mod.drew ?_ | with_reducible refine Mod.drewN ?_ _ | with_reducible refine Mod.setCell ?_ (by first | exact .inl rfl | (left; (try unfold from_); show _ ≤ _; first | omega | (simp; done) | (simp; omega)) | (right; first | omega | (simp; done) | (simp; omega))) _ | with_reducible refine Mod.call0 ?_ (by with_reducible assumption) | with_reducible refine Mod.call ?_ (by with_reducible assumption) (by first | (rintro _ rfl; first | exact .inl rfl | (right; (first | omega | (simp; done) | (simp; omega)))) | (rintro _ (rfl | rfl) <;> (right; (first | omega | (simp; done) | (simp; omega))))))) (fun _ _ h => h)) wr.heap.size (.int .i64 (pk : Int)) rfl (by repeat (first | with_reducible assumption | with_reducible apply Blk.new | with_reducible exact Blk.newAt (by first | rfl | (simp; done) | (simp; omega)) | with_reducible apply Blk.alloc | with_reducible apply Blk.drew | with_reducible apply Blk.drewN | with_reducible apply Blk.keep0 (hm := by with_reducible assumption) | with_reducible apply Blk.keep (hm := by with_reducible assumption) (hg := by first | omega | exact not_two (by omega) (by omega)) | with_reducible apply Blk.far (hp := by first | omega | (simp; done) | (simp; omega)) | with_reducible apply Blk.set1 | rfl)) rfl (by omega) (by simp; omega) ?_; rintro q1 cap1 w9 hq1 mq1 dq1 gq1 lq1)
                exact ⟨⟨i + 1, by go_num, by omega, by rw [HTK.out, stM_snoc, ← HPTD.out, HPI.out]; exact owns_keep (owns_keep0 HS.out ((Mod.refl _ _).alloc _)) mq1 (fun e => by have := (HL2.out.blk rp e).1; omega), by rw [HTK.out, stM_snoc, ← HPTD.out, HPI.out, List.map_append]; exact hq1, (y2.alloc _).call mq1 (fun b e => .inr (by have := (HL2.out.blk b e).1; omega))⟩, by simp [intOf] <;> omega⟩
          · rw [decide_eq_false hcan]
            have HNC := hide hcan
            clear hcan
            go_wp2_with fail
            (with_reducible refine (queue_calls (some ⟨rp, 0, none⟩) n n wr.heap.size pt (-1) w6 (HRD.out.keepMod (Nat.le_refl _) hm6) hm6.size (by omega)).mono ?_)
            rintro e w7 ⟨p, l0, rfl, hP0, hperm0, hheap0, hm7⟩
            have hlen0 : l0.length ≤ n := by rw [hperm0.length_eq]; exact qto_length _ _ _
            have hpos : 0 < l0.length := List.length_pos_of_mem (hperm0.mem_iff.2 (qto_all (show 0 < n by omega) (by omega)))
            go_wp2_with fail
            (with_reducible refine (hpop_calls w6.heap.size p l0 w7 hP0 (by omega) hpos hheap0).mono ?_)
            rintro e w8 ⟨xx, l', rfl, h8, hperm8, hheap8, hmin8, hm8⟩
            obtain ⟨t, ht, -, hxt⟩ := qto_mem ((hperm8.trans hperm0).mem_iff.1 (List.mem_cons_self ..))
            have hmn : t = minAt pt n := minAt_of ht fun s hs => by
              rcases List.mem_cons.1 ((hperm8.trans hperm0).mem_iff.2 (qto_all (pt := pt) (but := -1) hs (by omega))) with e | e
              · rw [← hxt, ← e]; exact leW.refl _
              · rw [← hxt]; exact hmin8 _ e
            have HPI := hide (show pickOf pt n x = t from by unfold pickOf; rw [← HP0.out, if_neg HNC.out, hmn])
            have hpk : t < n := ht
            have y6 : Mod nowhere wr w8 := (hm6.call0 hm7).call hm8 fun i hi => .inr (by have := hm6.size; unfold from_ at hi; omega)
            subst hxt
            have hta := run_assert
            have hf0 := run_field0
            clear hmn hmin8 hperm8 hheap8 h8 hP0 hperm0 hheap0 ht
            generalize t = pk at *
            have ho6 := owns_keep0 ho y6
            have L6 := HLr.out.keep0 y6
            have yW : Mod nowhere w w8 := hmr.call0 y6
            clear ho hmr y6
            go_wp2_with fail
            go_loopw [14, 57] (fun _ s57 wx => ∃ (j : Nat) (q : List Int), s57 = .int .i64 j ∧ j ≤ n ∧ wx.ownsRow 0 3 1 (.slice (some ⟨rp, 0, none⟩) n n) n (q.map (Value.int .i64)) ∧ q.length = n ∧ (∀ t, t < n → q.getD t 0 = if t < j then pt.getD t 0 - 1 else pt.getD t 0) ∧ LocRow wx (rp + 1) 3 1 u10 i ((stM f n (ws.take i)).2.map (Value.int .i64)) ∧ Mod nowhere w wx)
              (fun _ s57 _ => (300 - (intOf s57)).toNat)
            case atStart => exact ⟨0, pt, rfl, Nat.zero_le _, ho6, HLN.out, fun t ht => by simp, L6, yW⟩
            case round =>
              clear ho6 L6 yW
              obtain ⟨j, q, rfl, hj, ho, hql, hq, hL, hmr⟩ := hrel
              have HQ := hide hq
              have HQL := hide hql
              clear hq hql
              by_cases hjn : j < n
              · have hv : q.getD j 0 = pt.getD j 0 := by rw [HQ.out j hjn, if_neg (by omega)]
                have c1 := row_cell ho hjn
                rw [hv] at c1
                have hbj := HBD2.out j hjn
                have f1 := ho.frozenAt j
                have hs := (ho.stored j (.int .i64 (pt.getD j 0 - 1))).1
                rw [map_set] at hs
                have HS := hide hs
                generalize hgv : pt.getD j 0 = gv at c1 hbj HS
                clear hs hv
                go_wp2
                exact ⟨⟨j + 1, q.set j (gv - 1), by go_num, by omega, HS.out, by rw [List.length_set]; exact HQL.out, fun t ht => by
                  rw [getD_set _ _ _ (by have := HQL.out; omega)]
                  by_cases e : t = j
                  · subst e; rw [if_pos rfl, if_pos (by omega), hgv]
                  · rw [if_neg e, HQ.out t ht]
                    by_cases e2 : t < j
                    · rw [if_pos e2, if_pos (by omega)]
                    · rw [if_neg e2, if_neg (by omega)], hL.far (S := (· = rp)) (by repeat (first | with_reducible exact Mod.refl _ _ | with_reducible assumption | with_reducible refine Mod.alloc ?_ _ | with_reducible refine Mod.drew ?_ | with_reducible refine Mod.drewN ?_ _ | with_reducible refine Mod.setCell ?_ (by first | exact .inl rfl | (left; (try unfold from_); show _ ≤ _; first | omega | (simp; done) | (simp; omega)) | (right; first | omega | (simp; done) | (simp; omega))) _ | with_reducible refine Mod.call0 ?_ (by with_reducible assumption) | with_reducible refine Mod.call ?_ (by with_reducible assumption) (by first | (rintro _ rfl; first | exact .inl rfl | (right; (first | omega | (simp; done) | (simp; omega)))) | (rintro _ (rfl | rfl) <;> (right; (first | omega | (simp; done) | (simp; omega))))))) (fun b hb e => by have := (hL.blk b hb).1; omega), hmr.setCell (.inr hrpw) _⟩, by simp [intOf] <;> omega⟩
              · obtain rfl : n = j := by omega
                have c2 := row_cell ho hpk
                have f2 := ho.frozenAt pk
                have lq := (ownsRow_blk ho).elim fun _ hc => hc.lt
                have hs := (ho.stored pk (.int .i64 (f - 1))).1
                rw [map_set] at hs
                have hst : q.set pk (f - 1) = stepPt f pt pk := list_getD_ext (by rw [List.length_set, HQL.out, stepPt_length, HLN.out]) fun t ht => by
                  rw [List.length_set, HQL.out] at ht
                  rw [getD_set _ _ _ (by rw [HQL.out]; exact hpk), stepPt_at _ (by rw [HLN.out]; exact ht), HQ.out t ht, if_pos ht]
                rw [hst] at hs
                have HS := hide hs
                have hL2 := hL.far (S := (· = rp)) (w' := wr.setCell ⟨rp, pk, none⟩ (.int .i64 (f - 1))) (by repeat (first | with_reducible exact Mod.refl _ _ | with_reducible assumption | with_reducible refine Mod.alloc ?_ _ | with_reducible refine Mod.drew ?_ | with_reducible refine Mod.drewN ?_ _ | with_reducible refine Mod.setCell ?_ (by first | exact .inl rfl | (left; (try unfold from_); show _ ≤ _; first | omega | (simp; done) | (simp; omega)) | (right; first | omega | (simp; done) | (simp; omega))) _ | with_reducible refine Mod.call0 ?_ (by with_reducible assumption) | with_reducible refine Mod.call ?_ (by with_reducible assumption) (by first | (rintro _ rfl; first | exact .inl rfl | (right; (first | omega | (simp; done) | (simp; omega)))) | (rintro _ (rfl | rfl) <;> (right; (first | omega | (simp; done) | (simp; omega))))))) (fun b hb e => by have := (hL.blk b hb).1; omega)
                have HL2 := hide hL2
                have y2 : Mod nowhere w (wr.setCell ⟨rp, pk, none⟩ (.int .i64 (f - 1))) := hmr.setCell (.inr hrpw) _
                clear hs hst hL2 hL
                go_wp2_with (at_builtin; refine wpList_append_loc rfl _ _ _ rfl 3 i0 (.int .i64 0) Try.underlying22 hi hz0 hz1 hz2 rfl (rp + 1) u10 i ((stM f n (ws.take i)).2.map (Value.int .i64)) rfl (HL2.out.far (S := nowhere) (by repeat (first | with_reducible exact Mod.refl _ _ | with_reducible assumption | with_reducible refine Mod.alloc ?_ _ | with_reducible refine Mod.drew ?_ | with_reducible refine Mod.drewN ?_ _ | with_reducible refine Mod.setCell ?_ (by first | exact .inl rfl | (left; (try unfold from_); show _ ≤ _; first | omega | (simp; done) | (simp; omega)) | (right; first | omega | (simp; done) | (simp; omega))) _ | with_reducible refine Mod.call0 ?_ (by with_reducible assumption) | with_reducible refine Mod.call ?_ (by with_reducible assumption) (by first | (rintro _ rfl; first | exact .inl rfl | (right; (first | omega | (simp; done) | (simp; omega)))) | (rintro _ (rfl | rfl) <;> (right; (first | omega | (simp; done) | (simp; omega))))))) (fun _ _ h => h)) wr.heap.size (.int .i64 (pk : Int)) rfl (by repeat (first | with_reducible assumption | with_reducible apply Blk.new | with_reducible exact Blk.newAt (by first | rfl | (simp; done) | (simp; omega)) | with_reducible apply Blk.alloc | with_reducible apply Blk.drew | with_reducible apply Blk.drewN | with_reducible apply Blk.keep0 (hm := by with_reducible assumption) | with_reducible apply Blk.keep (hm := by with_reducible assumption) (hg := by first | omega | exact not_two (by omega) (by omega)) | with_reducible apply Blk.far (hp := by first | omega | (simp; done) | (simp; omega)) | with_reducible apply Blk.set1 | rfl)) rfl (by omega) (by simp; omega) ?_; rintro q1 cap1 w9 hq1 mq1 dq1 gq1 lq1)
                exact ⟨⟨i + 1, by go_num, by omega, by rw [HTK.out, stM_snoc, ← HPTD.out, HPI.out]; exact owns_keep (owns_keep0 HS.out ((Mod.refl _ _).alloc _)) mq1 (fun e => by have := (HL2.out.blk rp e).1; omega), by rw [HTK.out, stM_snoc, ← HPTD.out, HPI.out, List.map_append]; exact hq1, (y2.alloc _).call mq1 (fun b e => .inr (by have := (HL2.out.blk b e).1; omega))⟩, by simp [intOf] <;> omega⟩
        · obtain rfl : m = i := by omega
          have htk : ws.take m = ws := List.take_of_length_le (by rw [HL.out]; omega)
          rw [htk] at hL
          go_wp2
          go_ret2
          exact ⟨_, rfl, hL.weaken (by omega), hmr⟩
end Go.Proofs.Ytffeidjalphemaa
