/- The law FloorNotes, walked. -/
import Derived.Test.YtcfpgecchappoaaFloorT
namespace Go.Proofs.Ytcfpgecchappoaa
open Go.RowKit Go.ChangeShapes Go.WideShapes Go.Deep Go.Joins Go.ChangeAt

theorem open_evs {H : Type} {enc : TypeId × Value → H} {P : Program} {w : World} {base : Nat} {held : Bool} {r : Reach} {b0 : Nat} {t e : TypeId} {fs : Array Field} {v : Value} {d : DataW H} {p : List MemPlace} (ht : P.underlying t = some (.slice e)) (he : P.underlying e = some (.struct fs))
    (hone : oneCellFields P fs = true) (hC : P.cellsOf e = fs.size) (hpos : fs.size = 7) (hint : ∀ f ∈ fs.toList, P.underlying f.type = some (.int .i64)) (hv : Value.okWide P w r b0 t v) (h : DataW.Trod enc P w base (fun _ => true) held t v d p) :
    ∃ (A : Option Addr) (n c : Nat) (l : List (Nat → Int)), v = .slice A n c ∧ l.length = n ∧ Reads w w.heap.size 7 A n (evs l) ∧ n ≤ c ∧ c ≤ maxLen := by
  obtain ⟨A, n, c, l, rfl, hl, hnc, hcm, hc, hf⟩ := open_recs ht he hone hC (by omega) hv h
  have hx : ∀ x ∈ l, ∀ j, j < fs.size → x j = .int .i64 (numOf (x j)) := by
    intro x hx j hj
    obtain ⟨_, _, t0⟩ := hf x hx j fs[j] (Array.getElem?_eq_getElem hj)
    obtain ⟨q0, e0, w0⟩ := lit_int_of (hint fs[j] (by simp)) t0
    rw [e0]
    rfl
  refine ⟨A, n, c, l.map fun x j => numOf (x j), rfl, by simpa using hl, evs_reads (fun hn => ?_) (by simpa using hl), hnc, hcm⟩
  obtain ⟨b, o, rfl, hb, hcell⟩ := hc hn
  refine ⟨b, o, rfl, hb, fun i x hi j hj => ?_⟩
  rw [List.getElem?_map] at hi
  obtain ⟨y, hy, rfl⟩ := Option.map_eq_some_iff.1 hi
  have hj' : j < fs.size := by omega
  have := hcell i y hy j hj'
  rw [hpos] at this
  rw [this, hx y (List.mem_of_getElem? hy) j hj']
set_option maxRecDepth 100000 in
theorem open_evsT {H : Type} {enc : TypeId × Value → H} {w : World} {base : Nat} {held : Bool} {r : Reach} {b0 : Nat} {v : Value} {d : DataW H} {p : List MemPlace} (hv : Value.okWide Try.prog w r b0 35 v) (h : DataW.Trod enc Try.prog w base (fun _ => true) held 35 v d p) :
    ∃ (A : Option Addr) (n c : Nat) (l : List (Nat → Int)), v = .slice A n c ∧ l.length = n ∧ Reads w w.heap.size 7 A n (evs l) ∧ n ≤ c ∧ c ≤ maxLen :=
  open_evs Try.underlying35 Try.underlying38 (by kernel_rfl) (by kernel_rfl) (by decide) (by intro f hf; simp only [List.mem_cons, List.not_mem_nil, or_false] at hf; rcases hf with rfl | rfl | rfl | rfl | rfl | rfl | rfl <;> first | exact Try.underlying3 | exact Try.underlying2) hv h
theorem LocRow.form7 {w : World} {H : Nat} {E : TypeId} {v : Value} {n : Nat} {l : List (Nat → Int)} {x : Nat → Int} (h : LocRow w H E 7 v n (evs l)) (hl : l.length = n) (hx : l[0]? = some x) : ∃ q cap, v = .slice (some ⟨q, 0, none⟩) n cap ∧ H ≤ q ∧ q < w.heap.size ∧ w.cell? ⟨q, 0, none⟩ = some (.int .i64 (x 0)) ∧ w.frozen? ⟨q, 0, none⟩ = false := by
  have hb := h.blk
  have hn : 0 < n := by have := (List.getElem?_eq_some_iff.1 hx).1; omega
  obtain ⟨A, cap, rfl, ho, hA⟩ := h
  rcases hA with ⟨rfl, rfl, rfl⟩ | ⟨q, rfl, hq⟩
  · omega
  · obtain ⟨-, cur, hc⟩ := hb q rfl
    refine ⟨q, cap, rfl, hq, hc.lt, ?_, hc.frozen 0⟩
    rw [ho.cellAt 0 (by omega)]
    exact evs_at l 0 x 0 hx (by omega)
set_option maxRecDepth 100000 in
set_option maxHeartbeats 8000000 in
theorem law_floorNotes (A : Option Addr) (n c : Nat) (l : List (Nat → Int)) (w : World) (hl : l.length = n) (hr : Reads w w.heap.size 7 A n (evs l)) (hnc : n ≤ c) :
    Calls Try.prog 4 #[.slice A n c] w
     fun en w' => en = .returned (.bool true) ∧ Mod nowhere w w' := by
  have HR := hide hr
  have HL := hide hl
  clear hr hl
  by_cases g0 : 200 < n
  · go_enter Try.func4, Try.ntmps4
    go_wp2_with fail
    (with_reducible refine (alive13_calls _).mono ?_)
    rintro e w1 ⟨rfl, hbw1⟩
    have hzw1 := hbw1.size
    (try simp at hzw1)
    skip
    skip
    go_wp2
    go_ret
    exact ⟨rfl, (by repeat (first | with_reducible exact Mod.refl _ _ | with_reducible assumption | with_reducible refine Mod.alloc ?_ _ | with_reducible refine Mod.drew ?_ | with_reducible refine Mod.drewN ?_ _ | with_reducible refine Mod.setCell ?_ (by first | exact .inl rfl | (left; (try unfold from_); show _ ≤ _; first | omega | (simp; done) | (simp; omega)) | (right; first | omega | (simp; done) | (simp; omega))) _ | with_reducible refine Mod.call0 ?_ (by with_reducible assumption) | with_reducible refine Mod.call ?_ (by with_reducible assumption) (by first | (rintro _ rfl; first | exact .inl rfl | (right; (first | omega | (simp; done) | (simp; omega)))) | (rintro _ (rfl | rfl) <;> (right; (first | omega | (simp; done) | (simp; omega)))))))⟩
  go_enter Try.func4, Try.ntmps4
  go_wp2_with fail
  (with_reducible refine (alive13_calls _).mono ?_)
  rintro e w1 ⟨rfl, hbw1⟩
  have hzw1 := hbw1.size
  (try simp at hzw1)
  skip
  skip
  have y1 : Mod nowhere w w1 := (by repeat (first | with_reducible exact Mod.refl _ _ | with_reducible assumption | with_reducible refine Mod.alloc ?_ _ | with_reducible refine Mod.drew ?_ | with_reducible refine Mod.drewN ?_ _ | with_reducible refine Mod.setCell ?_ (by first | exact .inl rfl | (left; (try unfold from_); show _ ≤ _; first | omega | (simp; done) | (simp; omega)) | (right; first | omega | (simp; done) | (simp; omega))) _ | with_reducible refine Mod.call0 ?_ (by with_reducible assumption) | with_reducible refine Mod.call ?_ (by with_reducible assumption) (by first | (rintro _ rfl; first | exact .inl rfl | (right; (first | omega | (simp; done) | (simp; omega)))) | (rintro _ (rfl | rfl) <;> (right; (first | omega | (simp; done) | (simp; omega)))))))
  go_wp2_with fail
  (with_reducible refine (plain_calls 1 _).mono ?_)
  rintro e w2 ⟨rfl, hm2⟩
  have y2 : Mod nowhere w w2 := y1.call0 hm2
  go_wp2_with fail
  obtain ⟨W, hW⟩ : ∃ W, W = w2.alloc (.cells #[.int .i64 1, .int .i64 2] 2) := ⟨_, rfl⟩
  have yW : Mod nowhere w W := by rw [hW]; exact y2.alloc _
  have hbs : Blk W w2.heap.size 2 #[.int .i64 1, .int .i64 2] := by rw [hW]; exact Blk.new _ _ _
  rw [← hW]
  clear hW
  (with_reducible refine (fnew_callsZ [1, 2] [] w2.heap.size 0 2 2 none 0 0 1 136 2 1 100 9 4 3 W rfl rfl rfl rfl (by unfold CfgOk; omega) (by omega) hbs.lt (fun k x hk => ?_) Reads.none_ rfl (by omega)).mono ?_)
  · rcases k with _ | _ | k
    · simp at hk; subst hk; exact hbs.cell 0
    · simp at hk; subst hk; exact hbs.cell 1
    · simp at hk
  rintro e w3 ⟨p, rfl, K, r, tk, g, gw, gp, rp, cc, Ac, cs, hp3, -, -, -, -, -, -, hdv3, hrp3, lts, hm3⟩
  have y3 : Mod nowhere w w3 := yW.call0 hm3
  have zW := yW.size
  have hO3 : FloorO w3 p p 0 (.pointer (some ⟨K.a, 0, none⟩)) (.pointer (some ⟨K.t, 0, none⟩)) (.pointer (some ⟨K.c, 0, none⟩)) (.pointer (some ⟨tk, 0, none⟩)) (.pointer (some ⟨g, 0, none⟩)) 2 1 100 9 4 3 136 (.slice Ac 0 cc) (.slice (some ⟨rp, 0, none⟩) 1 1) (evs (l.take 0)) := Own.start hp3
  have HO3 := hide hO3
  obtain ⟨lp, -, -, -, -, lrp, -⟩ := lts
  have lpw : w.heap.size ≤ p := by omega
  clear hrp3 hbs hm3 y2 hm2 hdv3 hp3 hO3
  go_wp2_with fail
  go_loopw [5, 6] (fun s5 _ wx => ∃ (i rr : Nat), s5 = .int .i64 i ∧ i ≤ n ∧ w.heap.size ≤ rr ∧ FloorO wx p rr i (.pointer (some ⟨K.a, 0, none⟩)) (.pointer (some ⟨K.t, 0, none⟩)) (.pointer (some ⟨K.c, 0, none⟩)) (.pointer (some ⟨tk, 0, none⟩)) (.pointer (some ⟨g, 0, none⟩)) 2 1 100 9 4 3 136 (.slice Ac 0 cc) (.slice (some ⟨rp, 0, none⟩) 1 1) (evs (l.take i)) ∧ Mod nowhere w wx)
    (fun s5 _ _ => (2000 - (intOf s5)).toNat)
  case atStart => exact ⟨0, p, rfl, Nat.zero_le _, lpw, HO3.out, y3⟩
  case round =>
    obtain ⟨i, rr, rfl, him, hrr, hO, hmr⟩ := hrel
    have hsz := hmr.size
    by_cases hlt : i < n
    · have hlt' : (i : Int) < (n : Int) := by omega
      obtain ⟨b, o, hAe, hb, hc⟩ := HR.out.form (by omega) (by omega)
      obtain ⟨x, hx⟩ : ∃ x, l[i]? = some x := ⟨_, List.getElem?_eq_getElem (show i < l.length by have := HL.out; omega)⟩
      have d0 : ∀ j, j < 7 → wr.cell? ⟨b, o + i * 7 + j, none⟩ = some (.int .i64 (x j)) := fun j hj => by rw [Nat.add_assoc]; exact (hmr.cell (o + (i * 7 + j)) hb id).trans (hc (i * 7 + j) (.int .i64 (x j)) (evs_at l i x j hx hj))
      have q1 : wr.cell? ⟨b, o + i * 7, none⟩ = some (.int .i64 (x 0)) := d0 0 (by omega)
      have q2 := d0 1 (by omega)
      have q3 := d0 2 (by omega)
      have q4 := d0 3 (by omega)
      have q5 := d0 4 (by omega)
      have q6 := d0 5 (by omega)
      have q7 := d0 6 (by omega)
      have htk : evs (l.take (i + 1)) = evs (l.take i) ++ evCells x := by rw [List.take_add_one, hx]; exact evs_snoc _ _
      have HTK := hide htk
      have HX := hide hx
      have htl : (l.take (i + 1)).length = i + 1 := by rw [List.length_take]; have := HL.out; omega
      have HTL := hide htl
      have HA := hide hAe
      have HO := hide hO
      clear d0 hc htk hx htl hAe hO
      rw [HA.out]
      go_wp2_with fail
      (with_reducible refine (note_calls x p rr i _ _ _ _ _ _ _ _ _ _ _ _ _ _ _ wr HO.out (by omega)).mono ?_)
      rintro e w5 ⟨rfl, ⟨r5, hr5, hn5, hO5⟩, hm5⟩
      have y5 : Mod nowhere w w5 := hmr.call hm5 (fun b hb => .inr (by rcases hb with h | h <;> omega))
      rw [← HTK.out] at hO5
      have lr5 : w.heap.size ≤ r5 := by rcases hr5 with h | h <;> omega
      clear hr5 q1 q2 q3 q4 q5 q6 q7
      have HO5 := hide hO5
      clear hO5
      go_wp2_with fail
      (with_reducible refine (trace_calls p r5 (i + 1) _ _ _ _ _ _ _ _ _ _ _ _ _ _ (l.take (i + 1)) w5 HO5.out HTL.out (by omega)).mono ?_)
      rintro e w6 ⟨z, rfl, hL, hm6⟩
      have y6 : Mod nowhere w w6 := y5.call0 hm6
      have z5 := y5.size
      have x0 : (l.take (i + 1))[0]? = some (l[0]'(by have := HL.out; omega)) := by
        rw [List.getElem?_take_of_lt (by omega)]
        exact List.getElem?_eq_getElem _
      generalize l[0]'(by have := HL.out; omega) = xx at x0
      obtain ⟨q, c6, rfl, hq1, hq2, hc6, hf6⟩ := hL.form7 HTL.out x0
      generalize xx 0 = k0 at hc6
      clear x0
      have HR6 := hide (show Reads w6 w6.heap.size 7 (some ⟨q, 0, none⟩) (i + 1) (evs (l.take (i + 1))) by
        obtain ⟨A, cap, e, ho, -⟩ := hL
        injection e with e1 e2 e3
        subst e1 e3
        exact Reads.of_own ho)
      clear hL
      go_wp2_with fail
      have hr7 : Reads w6 w.heap.size 7 (some ⟨b, o, none⟩) (i + 1) (evs (l.take (i + 1))) := by
        rw [← HA.out]
        exact (evs_take HR.out HL.out (by omega)).keep fun q hq => World.cell?_of_block (y6.block q.block hq id)
      (with_reducible refine (events_same (l.take (i + 1)) (some ⟨q, 0, none⟩) (some ⟨b, o, none⟩) (i + 1) c6 c w6.heap.size w.heap.size _ HTL.out (by omega) HR6.out hr7 (Nat.le_refl _) y6.size).mono ?_)
      rintro e w7 ⟨rfl, hm7⟩
      clear hr7
      have y7 : Mod nowhere w w7 := y6.call0 hm7
      have c7 := (hm7.cell 0 hq2 id).trans hc6
      have z67 := hm7.size
      have b6 : w6.frozen? ⟨q, 0, none⟩ = w7.frozen? ⟨q, 0, none⟩ := (hm7.frozen 0 hq2 id).symm
      rw [b6] at hf6
      have HO7 := hide ((HO5.out.keep0 hm6).keep0 hm7)
      have y8 : Mod nowhere w (w7.setCell ⟨q, 0, none⟩ (.int .i64 (wrap64 (k0 + 1)))) := y7.setCell (.inr (show w.heap.size ≤ q by omega)) _
      have hlo := HO5.out.lt
      go_wp2
      refine ⟨⟨i + 1, r5, by go_num, by omega, lr5, HO7.out.far (show p ≠ q by omega) (show r5 ≠ q by omega) _, y8⟩, ?_⟩
      simp [intOf] <;> omega
    · obtain rfl : i = n := by omega
      have htk : l.take i = l := List.take_of_length_le (Nat.le_of_eq HL.out)
      rw [htk] at hO
      go_wp2_with fail
      (with_reducible refine (trace_calls p rr i _ _ _ _ _ _ _ _ _ _ _ _ _ _ l wr hO HL.out (by omega)).mono ?_)
      rintro e w5 ⟨z, rfl, hL, hm5⟩
      have y5 : Mod nowhere w w5 := hmr.call0 hm5
      obtain ⟨A5, c5, rfl, hr5⟩ : ∃ A c, z = .slice A i c ∧ Reads w5 w5.heap.size 7 A i (evs l) := by
        obtain ⟨A, cap, rfl, ho, -⟩ := hL
        exact ⟨A, cap, rfl, Reads.of_own ho⟩
      clear hL
      go_wp2_with fail
      (with_reducible refine (events_same l A5 A i c5 c w5.heap.size w.heap.size _ HL.out (by omega) hr5 (HR.out.keep fun q hq => World.cell?_of_block (y5.block q.block hq id)) (Nat.le_refl _) y5.size).mono ?_)
      rintro e w6 ⟨rfl, hm6⟩
      go_wp2
      go_ret
      exact ⟨rfl, y5.call0 hm6⟩
end Go.Proofs.Ytcfpgecchappoaa
