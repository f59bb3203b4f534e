/- The law FloorOwn, walked. -/
import Derived.Test.YtcfpgecchappoaaFloorI
import Derived.Test.YtcfpgecchappoaaFloorF
namespace Go.Proofs.Ytcfpgecchappoaa
open Go.RowKit

theorem reads_two {w : World} {q : Nat} {a b : Int} (h : Blk w q 2 #[.int .i64 a, .int .i64 b]) : Reads w (q + 1) 1 (some ⟨q, 0, none⟩) 2 ([a, b].map (Value.int .i64)) := by
  refine ⟨rfl, fun _ => ⟨_, rfl, Nat.lt_succ_self _, fun j u hu => ?_⟩⟩
  exact World.news_of_block (B := q) (cs := #[.int .i64 a, .int .i64 b]) (t := 2) (fr := (0, 0)) h j u (by simpa using hu)
theorem first_two {w : World} {q : Nat} (h : Blk w q 2 #[.int .i64 1, .int .i64 2]) : ∀ k x, ([1, 2] : List Int)[k]? = some x → w.cell? ⟨q, 0 + k, none⟩ = some (.int .i64 x) := by
  intro k x hk
  rcases k with _ | _ | k
  · simp at hk; subst hk; exact h.cell 0
  · simp at hk; subst hk; exact h.cell 1
  · simp at hk
def FWant (nd : Nat) (ld : List Int) (x : Int) : Prop := (0 < nd ∧ x = ld.getD 0 0) ∨ (¬ 0 < nd ∧ x = 0)
section
variable {P : Nat → Prop} {D : FD} {B r N nn : Nat} {cs : List Value} {v : Nat → Nat} {M : Int → Option Nat} {q : Int → Nat} {st : Int → Int} {tkn gc : Int} {ps : List Int} {G : Nat → Nat} {tn rt : Nat} {ts : List Value}
theorem fdraw_any (w : World) (h : Flo P D w B r N cs v nn M q st tkn gc ps G tn rt ts) (x : Int) (hG : G 1 = 0) (h1 : 1 < D.n1) (hnd2 : D.nd ≤ 1000) (hl : D.ld.length = D.nd) (hb : ∀ x ∈ D.ld, 0 ≤ x ∧ x ≤ 255) (hx : FWant D.nd D.ld x) :
    Calls Try.prog 11 #[.pointer (some ⟨D.p, 0, none⟩), .int .i64 1] w fun e w' => e = .returned (.int .i64 x) ∧ Mod P w w' := by
  rcases hx with ⟨h0, rfl⟩ | ⟨h0, rfl⟩
  · exact (fdraw w h 1 _ 1 rfl h1 h0 hnd2 hl (by omega) hb (by rw [hG, Nat.zero_mod])).mono (by rintro e w' ⟨rfl, -, hm⟩; exact ⟨rfl, hm⟩)
  · exact (fdraw_no w h 1 (by omega)).mono (by rintro e w' ⟨rfl, -, hm⟩; exact ⟨rfl, hm⟩)
/-- A draw, whatever it is. -/
theorem fdraw_some (w : World) (h : Flo P D w B r N cs v nn M q st tkn gc ps G tn rt ts) (h1 : 1 < D.n1) (hnd2 : D.nd ≤ 1000) (hl : D.ld.length = D.nd) (hG : G 1 ≤ 100000) (hb : ∀ x ∈ D.ld, 0 ≤ x ∧ x ≤ 255) :
    Calls Try.prog 11 #[.pointer (some ⟨D.p, 0, none⟩), .int .i64 1] w fun e w' => ∃ (x : Int) (G' : Nat → Nat), e = .returned (.int .i64 x) ∧ G' 1 ≤ G 1 + 1 ∧ Flo P D w' B r N cs v nn M q st tkn gc ps G' tn rt ts ∧ Mod P w w' := by
  by_cases h0 : 0 < D.nd
  · exact (fdraw w h 1 _ 1 rfl h1 h0 hnd2 hl hG hb rfl).mono (by rintro e w' ⟨rfl, hh, hm⟩; exact ⟨_, _, rfl, by rw [upd_same]; omega, hh, hm⟩)
  · exact (fdraw_no w h 1 (by omega)).mono (by rintro e w' ⟨rfl, hh, hm⟩; exact ⟨_, _, rfl, by omega, hh, hm⟩)
end

set_option maxRecDepth 100000 in
set_option maxHeartbeats 20000000 in
theorem law_floorOwn (A0 : Option Addr) (n0 c0 : Nat) (ld : List Int) (A1 : Option Addr) (n1 c1 : Nat) (l : List (Nat → Int)) (x : Int) (w : World) (hl0 : ld.length = n0) (hr0 : Reads w w.heap.size 1 A0 n0 (ld.map (Value.int .u8))) (hl1 : l.length = n1) (hr1 : Reads w w.heap.size 7 A1 n1 (evs l)) (hb0 : ∀ x ∈ ld, 0 ≤ x ∧ x ≤ 255) (hx0 : 0 ≤ x) (hx1 : x ≤ 255) :
    Calls Try.prog 7 #[.slice A0 n0 c0, .slice A1 n1 c1, .int .u8 x] w
     fun en w' => en = .returned (.bool true) ∧ Mod nowhere w w' := by
  have hfi : ∀ w, Sem.run Try.prog (Instr.field 64 (sightV false 0 0 0) 0) w = .ok (.bool false) w := fun _ => by kernel_rfl
  have HD := hide hr0
  have HR := hide hr1
  have HB0 := hide hb0
  have HL0 := hide hl0
  have HL := hide hl1
  clear hr0 hr1 hb0 hl0 hl1
  by_cases g0 : 50 < n0
  · go_enter Try.func7, Try.ntmps7
    go_wp2_with fail
    (with_reducible refine (alive13_calls _).mono ?_)
    rintro e w1 ⟨rfl, hbw1⟩
    have hzw1 := hbw1.size
    (try simp at hzw1)
    skip
    skip
    go_wp2
    go_ret
    exact ⟨rfl, (by repeat (first | with_reducible exact Mod.refl _ _ | with_reducible assumption | with_reducible refine Mod.alloc ?_ _ | with_reducible refine Mod.drew ?_ | with_reducible refine Mod.drewN ?_ _ | with_reducible refine Mod.setCell ?_ (by first | exact .inl rfl | (left; (try unfold from_); show _ ≤ _; first | omega | (simp; done) | (simp; omega)) | (right; first | omega | (simp; done) | (simp; omega))) _ | with_reducible refine Mod.call0 ?_ (by with_reducible assumption) | with_reducible refine Mod.call ?_ (by with_reducible assumption) (by first | (rintro _ rfl; first | exact .inl rfl | (right; (first | omega | (simp; done) | (simp; omega)))) | (rintro _ (rfl | rfl) <;> (right; (first | omega | (simp; done) | (simp; omega)))))))⟩
  by_cases g1 : 50 < n1
  · go_enter Try.func7, Try.ntmps7
    go_wp2_with fail
    (with_reducible refine (alive13_calls _).mono ?_)
    rintro e w1 ⟨rfl, hbw1⟩
    have hzw1 := hbw1.size
    (try simp at hzw1)
    skip
    skip
    go_wp2
    go_ret
    exact ⟨rfl, (by repeat (first | with_reducible exact Mod.refl _ _ | with_reducible assumption | with_reducible refine Mod.alloc ?_ _ | with_reducible refine Mod.drew ?_ | with_reducible refine Mod.drewN ?_ _ | with_reducible refine Mod.setCell ?_ (by first | exact .inl rfl | (left; (try unfold from_); show _ ≤ _; first | omega | (simp; done) | (simp; omega)) | (right; first | omega | (simp; done) | (simp; omega))) _ | with_reducible refine Mod.call0 ?_ (by with_reducible assumption) | with_reducible refine Mod.call ?_ (by with_reducible assumption) (by first | (rintro _ rfl; first | exact .inl rfl | (right; (first | omega | (simp; done) | (simp; omega)))) | (rintro _ (rfl | rfl) <;> (right; (first | omega | (simp; done) | (simp; omega)))))))⟩
  go_enter Try.func7, Try.ntmps7
  go_wp2_with fail
  (with_reducible refine (alive13_calls _).mono ?_)
  rintro e w1 ⟨rfl, hbw1⟩
  have hzw1 := hbw1.size
  (try simp at hzw1)
  skip
  skip
  have y1 : Mod nowhere w w1 := (by repeat (first | with_reducible exact Mod.refl _ _ | with_reducible assumption | with_reducible refine Mod.alloc ?_ _ | with_reducible refine Mod.drew ?_ | with_reducible refine Mod.drewN ?_ _ | with_reducible refine Mod.setCell ?_ (by first | exact .inl rfl | (left; (try unfold from_); show _ ≤ _; first | omega | (simp; done) | (simp; omega)) | (right; first | omega | (simp; done) | (simp; omega))) _ | with_reducible refine Mod.call0 ?_ (by with_reducible assumption) | with_reducible refine Mod.call ?_ (by with_reducible assumption) (by first | (rintro _ rfl; first | exact .inl rfl | (right; (first | omega | (simp; done) | (simp; omega)))) | (rintro _ (rfl | rfl) <;> (right; (first | omega | (simp; done) | (simp; omega)))))))
  go_wp2_with fail
  obtain ⟨W, hW⟩ : ∃ W, W = w1.alloc (.cells #[.int .i64 1, .int .i64 2] 2) := ⟨_, rfl⟩
  have yW : Mod nowhere w W := by rw [hW]; exact y1.alloc _
  have hbW : Blk W w1.heap.size 2 #[.int .i64 1, .int .i64 2] := by rw [hW]; exact Blk.new _ _ _
  rw [← hW]
  clear hW
  have z1 := y1.size
  generalize w1.heap.size = f at *
  (with_reducible refine (plain_calls 3 _).mono ?_)
  rintro e w2 ⟨rfl, hm2⟩
  have y2 : Mod nowhere w w2 := yW.call0 hm2
  have hb2 := hbW.keep0 hm2
  clear hm2 yW hbW y1
  go_wp2_with fail
  (with_reducible refine (fnew_callsZ [1, 2] ld f 0 2 2 A0 n0 c0 3 136 2 3 100 9 4 3 w2 rfl rfl rfl rfl (by unfold CfgOk; omega) (by omega) hb2.lt (first_two hb2) ((HD.out.keepMod (Nat.le_refl _) y2).more y2.size) HL0.out (by omega)).mono ?_)
  rintro e w3 ⟨p, rfl, hF⟩
  obtain ⟨DA, rA, csA, rfl, a1, a2, -, -, a5, -, -, -, a8, a9, a10, hfA, hA3, hm3⟩ := hF.flo
  have HA1 := hide a1
  have HA2 := hide a2
  have HA5 := hide a5
  have HA8 := hide a8
  have HA9 := hide a9
  have HA10 := hide a10
  have HFA := hide hfA
  clear hF a1 a2 a5 a8 a9 a10 hfA
  have y3 : Mod nowhere w w3 := y2.call0 hm3
  have hb3 := hb2.keep0 hm3
  have z3 := hm3.size
  clear hm3
  go_wp2_with fail
  (with_reducible refine (plain_calls 3 _).mono ?_)
  rintro e w4 ⟨rfl, hm4⟩
  have y4 : Mod nowhere w w4 := y3.call0 hm4
  have hb4 := hb3.keep0 hm4
  have hA4 := hA3.keep0 hm4
  have z4 := hm4.size
  clear hm4 y3 hb3 hA3
  go_wp2_with fail
  (with_reducible refine (fnew_callsZ [1, 2] ld f 0 2 2 A0 n0 c0 3 136 2 3 100 9 4 3 w4 rfl rfl rfl rfl (by unfold CfgOk; omega) (by omega) hb4.lt (first_two hb4) ((HD.out.keepMod (Nat.le_refl _) y4).more y4.size) HL0.out (by omega)).mono ?_)
  rintro e w5 ⟨p, rfl, hF⟩
  obtain ⟨DB, rB, csB, rfl, a1, a2, -, -, a5, -, -, -, a8, a9, a10, hfB, hB5, hm5⟩ := hF.flo
  have HB1 := hide a1
  have HB2 := hide a2
  have HB5 := hide a5
  have HB8 := hide a8
  have HB9 := hide a9
  have HB10 := hide a10
  have HFB := hide hfB
  clear hF a1 a2 a5 a8 a9 a10 hfB
  have y5 : Mod nowhere w w5 := y4.call0 hm5
  have hb5 := hb4.keep0 hm5
  have z5 := hm5.size
  obtain ⟨PA, PB, HNFB, HWA, HWB, HUP, HNB, HNF, hA5, hB5⟩ : ∃ PA PB : Nat → Prop, ¬ PB f ∧ (∀ b, PA b → w.heap.size ≤ b) ∧ (∀ b, PB b → w.heap.size ≤ b) ∧ (∀ b, w5.heap.size ≤ b → PA b) ∧ (∀ b, PB b → ¬ PA b) ∧ ¬ PA f ∧
      Flo PA DA w5 w2.heap.size rA (2 * 2) csA (fun i => 2 * i + 1) 0 (fun _ => none) (fun _ => 0) (fun _ => 0) 0 0 (List.replicate 3 0) (fun _ => 0) 0 DA.p [] ∧
      Flo PB DB w5 w4.heap.size rB (2 * 2) csB (fun i => 2 * i + 1) 0 (fun _ => none) (fun _ => 0) (fun _ => 0) 0 0 (List.replicate 3 0) (fun _ => 0) 0 DB.p [] := by
    have z2 := y2.size
    have lf := hb2.lt
    refine ⟨fun b => w2.heap.size ≤ b ∧ (b < w4.heap.size ∨ w5.heap.size ≤ b), fun b => w4.heap.size ≤ b ∧ b < w5.heap.size, by omega, fun b hb => by omega, fun b hb => by omega, fun b hb => by omega, fun b hb => by omega, by omega, (hA4.keep0 hm5).weaken fun b hb => by omega, hB5⟩
  clear hA4 hm5 y4 hb4 hb2 y2
  generalize hp2 : w2.heap.size = s2 at *
  generalize hp4 : w4.heap.size = s4 at *
  clear hp2 hp4
  have z5' := y5.size
  have HY5 := hide y5
  have HA5' := hide hA5
  have HB5' := hide hB5
  have HF5 := hide hb5
  have HU5 := hide HUP
  clear y5 hA5 hB5 hb5 HUP
  go_wp2_with fail
  go_loopw [12] (fun s12 wx => ∃ (i rr : Nat) (ts : List Value), s12 = .int .i64 i ∧ i ≤ n1 ∧ Flo PA DA wx s2 rA (2 * 2) csA (fun i => 2 * i + 1) 0 (fun _ => none) (fun _ => 0) (fun _ => 0) 0 0 (List.replicate 3 0) (fun _ => 0) i rr ts ∧
      Flo PB DB wx s4 rB (2 * 2) csB (fun i => 2 * i + 1) 0 (fun _ => none) (fun _ => 0) (fun _ => 0) 0 0 (List.replicate 3 0) (fun _ => 0) 0 DB.p [] ∧ Blk wx f 2 #[.int .i64 1, .int .i64 2] ∧ (∀ b, wx.heap.size ≤ b → PA b) ∧ Mod nowhere w wx)
    (fun s12 _ => (2000 - (intOf s12)).toNat)
  case atStart => exact ⟨0, DA.p, [], rfl, Nat.zero_le _, HA5'.out, HB5'.out, HF5.out, HU5.out, HY5.out⟩
  case round =>
    obtain ⟨i, rr, ts, rfl, him, hA, hB, hf, hU, hmr⟩ := hrel
    clear HY5 HA5' HB5' HF5 HU5
    have hsz := hmr.size
    by_cases hlt : i < n1
    · have hlt' : (i : Int) < (n1 : Int) := by omega
      obtain ⟨b, o, hAe, hb, hc⟩ := HR.out.form (by omega) (by omega)
      obtain ⟨y, hy⟩ : ∃ y, l[i]? = some y := ⟨_, List.getElem?_eq_getElem (show i < l.length by have := HL.out; omega)⟩
      have d0 : ∀ j, j < 7 → wr.cell? ⟨b, o + i * 7 + j, none⟩ = some (.int .i64 (y j)) := fun j hj => by rw [Nat.add_assoc]; exact (hmr.cell (o + (i * 7 + j)) hb id).trans (hc (i * 7 + j) (.int .i64 (y j)) (evs_at l i y j hy hj))
      have q1 : wr.cell? ⟨b, o + i * 7, none⟩ = some (.int .i64 (y 0)) := d0 0 (by omega)
      have q2 := d0 1 (by omega)
      have q3 := d0 2 (by omega)
      have q4 := d0 3 (by omega)
      have q5 := d0 4 (by omega)
      have q6 := d0 5 (by omega)
      have q7 := d0 6 (by omega)
      clear d0 hc hy
      subst hAe
      go_wp2_with fail
      (with_reducible refine (fnote wr hA y hU (by omega)).mono ?_)
      rintro e w6 ⟨r6, rfl, hA6, hm6⟩
      have hB6 := hB.keep hm6 HNB
      have hf6 := hf.keep hm6 HNF
      have y6 : Mod nowhere w w6 := hmr.call hm6 (fun b hb => .inr (HWA b hb))
      have u6 : ∀ b, w6.heap.size ≤ b → PA b := fun b hb => hU b (Nat.le_trans hm6.size hb)
      clear q1 q2 q3 q4 q5 q6 q7
      go_wp2
      go_roundw
      case rel => exact ⟨i + 1, r6, _, by go_num, by omega, hA6, hB6, hf6, u6, y6⟩
      case measure => simp [intOf] <;> omega
    · obtain rfl : i = n1 := by omega
      have z := hsz
      clear him
      go_wp2_with fail
      (with_reducible refine (ftable wr hA).mono ?_)
      rintro e w6 ⟨rfl, hA6, hm6⟩
      have hB6 := hB.keep hm6 HNB
      have hf6 := hf.keep hm6 HNF
      have y6 : Mod nowhere w w6 := hmr.call hm6 (fun b hb => .inr (HWA b hb))
      have u6 : ∀ b, w6.heap.size ≤ b → PA b := fun b hb => hU b (Nat.le_trans hm6.size hb)
      clear hA hB hf hU hmr hm6
      go_wp2_with fail
      (with_reducible refine (fbeg w6 hA6 0 0 0 0 0 4 u6 rfl (by rw [HA10.out]; omega) (by omega) (by omega) (by omega) (by omega) (by omega)).mono ?_)
      rintro e w7 ⟨r1, d, dx, rfl, hA7, hm7⟩
      have hB7 := hB6.keep hm7 HNB
      have hf7 := hf6.keep hm7 HNF
      have y7 : Mod nowhere w w7 := y6.call hm7 (fun b hb => .inr (HWA b hb))
      have u7 : ∀ b, w7.heap.size ≤ b → PA b := fun b hb => u6 b (Nat.le_trans hm7.size hb)
      clear hA6 hB6 hf6 u6 y6 hm7
      go_wp2_with fail
      (with_reducible refine (fcells w7 hA7).mono ?_)
      rintro e w8 ⟨rfl, hA8, hm8⟩
      have hB8 := hB7.keep hm8 HNB
      have hf8 := hf7.keep hm8 HNF
      have y8 : Mod nowhere w w8 := y7.call hm8 (fun b hb => .inr (HWA b hb))
      have u8 : ∀ b, w8.heap.size ≤ b → PA b := fun b hb => u7 b (Nat.le_trans hm8.size hb)
      clear hA7 hB7 hf7 u7 y7 hm8
      have G4 := hide (Rec9.new 1 9 0 0 0 0 0 0 0 (cs := csA ++ [.int .i64 3, .int .i64 0, .int .i64 0, .int .i64 0, .int .i64 0, .int .i64 0, .int .i64 0, .int .i64 0, .int .i64 0]) hA8.sys.cf.arn.len)
      go_wp2_with fail
      (with_reducible refine (fver w8 hA8 9 5 u8 rfl (by rw [HA10.out]; omega)).mono ?_)
      rintro e w9 ⟨r2, rfl, hA9, hm9⟩
      have hB9 := hB8.keep hm9 HNB
      have hf9 := hf8.keep hm9 HNF
      have y9 : Mod nowhere w w9 := y8.call hm9 (fun b hb => .inr (HWA b hb))
      have u9 : ∀ b, w9.heap.size ≤ b → PA b := fun b hb => u8 b (Nat.le_trans hm9.size hb)
      clear hA8 hB8 hf8 u8 y8 hm9
      go_wp2_with fail
      (with_reducible refine (fcells w9 hA9).mono ?_)
      rintro e w10 ⟨rfl, hA10, hm10⟩
      have hB10 := hB9.keep hm10 HNB
      have hf10 := hf9.keep hm10 HNF
      have y10 : Mod nowhere w w10 := y9.call hm10 (fun b hb => .inr (HWA b hb))
      have u10 : ∀ b, w10.heap.size ≤ b → PA b := fun b hb => u9 b (Nat.le_trans hm10.size hb)
      clear hA9 hB9 hf9 u9 y9 hm10
      go_wp2_with fail
      (with_reducible refine (fload w10 hA10 0 0 1 rfl (by rw [HA9.out]; omega) rfl).mono ?_)
      rintro e w11 ⟨rfl, hA11, hm11⟩
      have hB11 := hB10.keep hm11 HNB
      have hf11 := hf10.keep hm11 HNF
      have y11 : Mod nowhere w w11 := y10.call hm11 (fun b hb => .inr (HWA b hb))
      have u11 : ∀ b, w11.heap.size ≤ b → PA b := fun b hb => u10 b (Nat.le_trans hm11.size hb)
      clear hA10 hB10 hf10 u10 y10 hm11
      go_wp2_with fail
      (with_reducible refine (fcells w11 hA11).mono ?_)
      rintro e w12 ⟨rfl, hA12, hm12⟩
      have hB12 := hB11.keep hm12 HNB
      have hf12 := hf11.keep hm12 HNF
      have y12 : Mod nowhere w w12 := y11.call hm12 (fun b hb => .inr (HWA b hb))
      have u12 : ∀ b, w12.heap.size ≤ b → PA b := fun b hb => u11 b (Nat.le_trans hm12.size hb)
      clear hA11 hB11 hf11 u11 y11 hm12
      have G6 := hide (Rec9.new 2 0 4 5 5 0 0 0 0 hA12.sys.cf.arn.len)
      go_wp2_with fail
      (with_reducible refine (fbld w12 hA12 4 5 5 9 9 6 5 5 u12 rfl rfl rfl (by omega) (by omega) G4.out G4.out (by omega) (by rw [HA10.out]; omega)).mono ?_)
      rintro e w13 ⟨r3, rfl, hA13, hm13⟩
      have hB13 := hB12.keep hm13 HNB
      have hf13 := hf12.keep hm13 HNF
      have y13 : Mod nowhere w w13 := y12.call hm13 (fun b hb => .inr (HWA b hb))
      have u13 : ∀ b, w13.heap.size ≤ b → PA b := fun b hb => u12 b (Nat.le_trans hm13.size hb)
      clear hA12 hB12 hf12 u12 y12 hm13
      go_wp2_with fail
      (with_reducible refine (fcells w13 hA13).mono ?_)
      rintro e w14 ⟨rfl, hA14, hm14⟩
      have hB14 := hB13.keep hm14 HNB
      have hf14 := hf13.keep hm14 HNF
      have y14 : Mod nowhere w w14 := y13.call hm14 (fun b hb => .inr (HWA b hb))
      have u14 : ∀ b, w14.heap.size ≤ b → PA b := fun b hb => u13 b (Nat.le_trans hm14.size hb)
      clear hA13 hB13 hf13 u13 y13 hm14
      go_wp2_with fail
      (with_reducible refine (fswap w14 hA14 0 1 6 0 6 rfl (by rw [HA9.out]; omega) rfl rfl).mono ?_)
      rintro e w15 ⟨rfl, hA15, hm15⟩
      have hB15 := hB14.keep hm15 HNB
      have hf15 := hf14.keep hm15 HNF
      have y15 : Mod nowhere w w15 := y14.call hm15 (fun b hb => .inr (HWA b hb))
      have u15 : ∀ b, w15.heap.size ≤ b → PA b := fun b hb => u14 b (Nat.le_trans hm15.size hb)
      clear hA14 hB14 hf14 u14 y14 hm15
      go_wp2_with fail
      (with_reducible refine (ftable w15 hA15).mono ?_)
      rintro e w16 ⟨rfl, hA16, hm16⟩
      have hB16 := hB15.keep hm16 HNB
      have hf16 := hf15.keep hm16 HNF
      have y16 : Mod nowhere w w16 := y15.call hm16 (fun b hb => .inr (HWA b hb))
      have u16 : ∀ b, w16.heap.size ≤ b → PA b := fun b hb => u15 b (Nat.le_trans hm16.size hb)
      clear hA15 hB15 hf15 u15 y15 hm16
      go_wp2_with fail
      (with_reducible refine (fturn w16 hA16 4 d (by unfold I64; omega) (updz_same _ _ _) (updz_same _ _ _)).mono ?_)
      rintro e w17 ⟨rfl, hA17, hm17⟩
      have hB17 := hB16.keep hm17 HNB
      have hf17 := hf16.keep hm17 HNF
      have y17 : Mod nowhere w w17 := y16.call hm17 (fun b hb => .inr (HWA b hb))
      have u17 : ∀ b, w17.heap.size ≤ b → PA b := fun b hb => u16 b (Nat.le_trans hm17.size hb)
      clear hA16 hB16 hf16 u16 y16 hm17
      go_wp2_with fail
      (with_reducible refine (fgate w17 hA17).mono ?_)
      rintro e w18 ⟨rfl, hA18, hm18⟩
      have hB18 := hB17.keep hm18 HNB
      have hf18 := hf17.keep hm18 HNF
      have y18 : Mod nowhere w w18 := y17.call hm18 (fun b hb => .inr (HWA b hb))
      have u18 : ∀ b, w18.heap.size ≤ b → PA b := fun b hb => u17 b (Nat.le_trans hm18.size hb)
      clear hA17 hB17 hf17 u17 y17 hm18
      go_wp2_with fail
      (with_reducible refine (fgate w18 hA18).mono ?_)
      rintro e w19 ⟨rfl, hA19, hm19⟩
      have hB19 := hB18.keep hm19 HNB
      have hf19 := hf18.keep hm19 HNF
      have y19 : Mod nowhere w w19 := y18.call hm19 (fun b hb => .inr (HWA b hb))
      have u19 : ∀ b, w19.heap.size ≤ b → PA b := fun b hb => u18 b (Nat.le_trans hm19.size hb)
      clear hA18 hB18 hf18 u18 y18 hm19
      go_wp2_with fail
      (with_reducible refine (fsee w19 hA19 rfl).mono ?_)
      rintro e w20 ⟨rfl, hA20, hm20⟩
      have hB20 := hB19.keep hm20 HNB
      have hf20 := hf19.keep hm20 HNF
      have y20 : Mod nowhere w w20 := y19.call hm20 (fun b hb => .inr (HWA b hb))
      have u20 : ∀ b, w20.heap.size ≤ b → PA b := fun b hb => u19 b (Nat.le_trans hm20.size hb)
      clear hA19 hB19 hf19 u19 y19 hm20
      go_wp2_with fail
      (with_reducible refine (fgswap w20 hA20 0 0 0 4 1 (by omega) (by rw [HA1.out]; omega) (by rw [HA1.out]; omega) (by omega) (by omega) rfl).mono ?_)
      rintro e w21 ⟨rfl, hA21, hm21⟩
      have hB21 := hB20.keep hm21 HNB
      have hf21 := hf20.keep hm21 HNF
      have y21 : Mod nowhere w w21 := y20.call hm21 (fun b hb => .inr (HWA b hb))
      have u21 : ∀ b, w21.heap.size ≤ b → PA b := fun b hb => u20 b (Nat.le_trans hm21.size hb)
      clear hA20 hB20 hf20 u20 y20 hm21
      go_wp2_with fail
      (with_reducible refine (fgate w21 hA21).mono ?_)
      rintro e w22 ⟨rfl, hA22, hm22⟩
      have hB22 := hB21.keep hm22 HNB
      have hf22 := hf21.keep hm22 HNF
      have y22 : Mod nowhere w w22 := y21.call hm22 (fun b hb => .inr (HWA b hb))
      have u22 : ∀ b, w22.heap.size ≤ b → PA b := fun b hb => u21 b (Nat.le_trans hm22.size hb)
      clear hA21 hB21 hf21 u21 y21 hm22
      go_wp2_with fail
      (with_reducible refine (fbeat w22 hA22 1 1 rfl (by rw [HA1.out]; omega)).mono ?_)
      rintro e w23 ⟨ps1, rfl, hA23, hm23⟩
      have hB23 := hB22.keep hm23 HNB
      have hf23 := hf22.keep hm23 HNF
      have y23 : Mod nowhere w w23 := y22.call hm23 (fun b hb => .inr (HWA b hb))
      have u23 : ∀ b, w23.heap.size ≤ b → PA b := fun b hb => u22 b (Nat.le_trans hm23.size hb)
      clear hA22 hB22 hf22 u22 y22 hm23
      go_wp2_with fail
      (with_reducible refine (ftickets w23 hA23).mono ?_)
      rintro e w24 ⟨rfl, hA24, hm24⟩
      have hB24 := hB23.keep hm24 HNB
      have hf24 := hf23.keep hm24 HNF
      have y24 : Mod nowhere w w24 := y23.call hm24 (fun b hb => .inr (HWA b hb))
      have u24 : ∀ b, w24.heap.size ≤ b → PA b := fun b hb => u23 b (Nat.le_trans hm24.size hb)
      clear hA23 hB23 hf23 u23 y23 hm24
      go_wp2_with fail
      (with_reducible refine (ftake w24 hA24 0 rfl (by omega) (by rw [HA5.out]; omega) (by rw [HA5.out]; omega)).mono ?_)
      rintro e w25 ⟨rfl, hA25, hm25⟩
      have hB25 := hB24.keep hm25 HNB
      have hf25 := hf24.keep hm25 HNF
      have y25 : Mod nowhere w w25 := y24.call hm25 (fun b hb => .inr (HWA b hb))
      have u25 : ∀ b, w25.heap.size ≤ b → PA b := fun b hb => u24 b (Nat.le_trans hm25.size hb)
      clear hA24 hB24 hf24 u24 y24 hm25
      obtain ⟨r9, N9, cs9, v9, k9, M9, q9, st9, tk9, gc9, ps9, CU, hA⟩ : ∃ (r9 N9 : Nat) (cs9 : List Value) (v9 : Nat → Nat) (k9 : Nat) (M9 : Int → Option Nat) (q9 : Int → Nat) (st9 : Int → Int) (tk9 gc9 : Int) (ps9 : List Int), (∀ i y, ([9, 2] : List Int)[i]? = some y → Cur cs9 N9 st9 (v9 i) y) ∧ Flo PA DA w25 s2 r9 N9 cs9 v9 k9 M9 q9 st9 tk9 gc9 ps9 (fun _ => 0) i rr ts := by
        refine ⟨_, _, _, _, _, _, _, _, _, _, _, fun i y hy => ?_, hA25⟩
        rcases i with _ | _ | i
        · simp at hy
          subst hy
          rw [upd_same]
          exact Cur.mk 4 5 5 5 (by omega) G6.out (by unfold I64; omega) (by rw [if_pos (.inr (updz_same _ _ _))]; rfl) (by omega) G4.out.more
        · simp at hy
          subst hy
          rw [upd_other _ _ (by omega)]
          exact (((First.cur (N := 2 * 2) HFA.out (i := 1) (by omega) rfl (Nat.le_refl _)).more (Nat.le_refl _)).more (Nat.le_refl _)).more (by omega)
        · simp at hy
      have HCU := hide CU
      have HA9' := hide hA
      have HB9' := hide hB25
      have HF9 := hide hf25
      have HU9 := hide u25
      have HY9 := hide y25
      obtain ⟨m, hm9⟩ : ∃ m : Nat, x % 9 = (m : Int) := ⟨(x % 9).toNat, by omega⟩
      have hm8 : m ≤ 8 := by omega
      clear hA25 hB25 hf25 u25 y25 CU hA G4 G6
      go_wp2_with fail
      go_loopw [21] (fun s21 wx => ∃ (j : Nat) (G : Nat → Nat), s21 = .int .i64 j ∧ j ≤ m ∧ G 1 ≤ j ∧ Flo PA DA wx s2 r9 N9 cs9 v9 k9 M9 q9 st9 tk9 gc9 ps9 G i rr ts ∧
      Flo PB DB wx s4 rB (2 * 2) csB (fun i => 2 * i + 1) 0 (fun _ => none) (fun _ => 0) (fun _ => 0) 0 0 (List.replicate 3 0) (fun _ => 0) 0 DB.p [] ∧ Blk wx f 2 #[.int .i64 1, .int .i64 2] ∧ (∀ b, wx.heap.size ≤ b → PA b) ∧ Mod nowhere w wx)
        (fun s21 _ => (2000 - (intOf s21)).toNat)
      case atStart => exact ⟨0, fun _ => 0, rfl, Nat.zero_le _, Nat.zero_le _, HA9'.out, HB9'.out, HF9.out, HU9.out, HY9.out⟩
      case round =>
        obtain ⟨j, G, rfl, hjm, hG, hA, hB, hf, hU, hmr⟩ := hrel
        clear HA9' HB9' HF9 HU9 HY9
        by_cases hlt : j < m
        · have hlt' : (j : Int) < (m : Int) := by omega
          go_wp2_with fail
          (with_reducible refine (fdraw_some wr hA (by rw [HA1.out]; omega) (by rw [HA2.out]; omega) (by rw [HA8.out, HA2.out]; exact HL0.out) (by omega) (by rw [HA8.out]; exact HB0.out)).mono ?_)
          rintro e w6 ⟨xx, G6, rfl, hG6, hA6, hm6⟩
          have hB6 := hB.keep hm6 HNB
          have hf6 := hf.keep hm6 HNF
          have y6 : Mod nowhere w w6 := hmr.call hm6 (fun b hb => .inr (HWA b hb))
          have u6 : ∀ b, w6.heap.size ≤ b → PA b := fun b hb => hU b (Nat.le_trans hm6.size hb)
          go_wp2
          go_roundw
          case rel => exact ⟨j + 1, G6, by go_num, by omega, by omega, hA6, hB6, hf6, u6, y6⟩
          case measure => simp [intOf] <;> omega
        · obtain rfl : j = m := by omega
          have HCA := hide hA
          have HCB := hide hB
          have HCF := hide hf
          clear hA hB hf hU hG
          have hd : (0 < n0 ∧ ∃ d0 b o, A0 = some ⟨b, o, none⟩ ∧ wr.cell? ⟨b, o, none⟩ = some (.int .u8 d0) ∧ 0 ≤ d0 ∧ d0 ≤ 255 ∧ d0 = ld.getD 0 0) ∨ ¬ 0 < n0 := by
            by_cases h0 : 0 < n0
            · obtain ⟨b, o, hAe, hb, hc⟩ := reads_cellK HD.out (Nat.le_refl _) (hmr.mono fun _ x => x.elim) h0
              have hv := HB0.out _ (getD_mem (show 0 < ld.length by rw [HL0.out]; exact h0))
              exact .inl ⟨h0, _, b, o, hAe, hc, hv.1, hv.2, rfl⟩
            · exact .inr h0
          obtain ⟨want, hwant⟩ : ∃ want : Int, (0 < DB.nd ∧ want = DB.ld.getD 0 0) ∨ (¬ 0 < DB.nd ∧ want = 0) := by
            by_cases h0 : 0 < DB.nd
            · exact ⟨_, .inl ⟨h0, rfl⟩⟩
            · exact ⟨0, .inr ⟨h0, rfl⟩⟩
          have hwd : (0 < n0 → want = ld.getD 0 0) ∧ (¬ 0 < n0 → want = 0) := by
            have e1 := HB2.out
            have e2 := HB8.out
            rw [e1, e2] at hwant
            exact ⟨fun h => hwant.elim (fun y => y.2) (fun y => absurd h y.1), fun h => hwant.elim (fun y => absurd y.1 h) (fun y => y.2)⟩
          have HW : FWant DB.nd DB.ld want := hwant
          rcases hd with ⟨h0, d0, b, o, hAe, hc, b1, b2, hd0⟩ | h0
          · obtain rfl : want = d0 := (hwd.1 h0).trans hd0.symm
            subst hAe
            have h0' : (0 : Int) < (n0 : Int) := by omega
            clear hwd hwant hd0
            go_wp2_with fail
            (with_reducible refine (fvalues wr (HCA.out) [9, 2] 2 HA9.out rfl HCU.out).mono ?_)
            rintro e w40 ⟨z, rfl, hz40, hA40, hm40⟩
            have hB40 := (HCB.out).keep hm40 HNB
            have hf40 := (HCF.out).keep hm40 HNF
            have y40 : Mod nowhere w w40 := hmr.call hm40 (fun b hb => .inr (HWA b hb))
            clear hm40 hmr
            obtain ⟨Az41, cz41, rfl, hr41⟩ := hz40.reads
            clear hz40
            go_wp2_with fail
            (with_reducible refine (vals_same [9, 2] Az41 (some ⟨w40.heap.size, 0, none⟩) 2 cz41 2 w40.heap.size (w40.heap.size + 1) _ rfl (by omega) (hr41.keepMod (Nat.le_refl _) ((Mod.refl _ _).alloc _)) (reads_two (Blk.new _ _ _)) (by simp) (by simp)).mono ?_)
            rintro e w41 ⟨rfl, hm41⟩
            have m41 : Mod nowhere w40 w41 := ((Mod.refl _ _).alloc _).call0 hm41
            have hB41 := (hB40).keep0 m41
            have hf41 := (hf40).keep0 m41
            have y41 := y40.call0 m41
            clear hm41 m41 y40 hf40 hB40 hr41
            go_wp2_with fail
            (with_reducible refine (fvalues w41 (hB41) [1, 2] 2 HB9.out rfl (fun i y hy => First.cur HFB.out (by have := (List.getElem?_eq_some_iff.1 hy).1; simpa using this) hy (Nat.le_refl _))).mono ?_)
            rintro e w42 ⟨z, rfl, hz42, hB42, hm42⟩
            have hf42 := (hf41).keep hm42 HNFB
            have y42 : Mod nowhere w w42 := y41.call hm42 (fun b hb => .inr (HWB b hb))
            clear hm42 y41 hf41
            obtain ⟨Az43, cz43, rfl, hr43⟩ := hz42.reads
            clear hz42
            go_wp2_with fail
            (with_reducible refine (vals_same [1, 2] Az43 (some ⟨f, 0, none⟩) 2 cz43 2 w42.heap.size (f + 1) _ rfl (by omega) hr43 (reads_two hf42) (Nat.le_refl _) (Nat.succ_le_of_lt (Blk.lt hf42))).mono ?_)
            rintro e w43 ⟨rfl, hm43⟩
            have m43 := hm43
            have hB43 := (hB42).keep0 m43
            have hf43 := (hf42).keep0 m43
            have y43 := y42.call0 m43
            clear hm43 m43 y42 hf42 hB42 hr43
            go_wp2_with fail
            (with_reducible refine (ftrace w43 (hB43) [] rfl rfl (by omega)).mono ?_)
            rintro e w44 ⟨z, rfl, hz44, hB44, hm44⟩
            have hf44 := (hf43).keep hm44 HNFB
            have y44 : Mod nowhere w w44 := y43.call hm44 (fun b hb => .inr (HWB b hb))
            clear hm44 y43 hf43
            obtain ⟨Az44, cz44, rfl, -⟩ := hz44.reads
            clear hz44
            go_wp2_with fail
            (with_reducible refine (ftable w44 (hB44)).mono ?_)
            rintro e w45 ⟨rfl, hB45, hm45⟩
            have hf45 := (hf44).keep hm45 HNFB
            have y45 : Mod nowhere w w45 := y44.call hm45 (fun b hb => .inr (HWB b hb))
            clear hm45 y44 hf44
            go_wp2_with fail
            (with_reducible refine (fcount w45 (hB45) rfl).mono ?_)
            rintro e w46 ⟨rfl, hB46, hm46⟩
            have hf46 := (hf45).keep hm46 HNFB
            have y46 : Mod nowhere w w46 := y45.call hm46 (fun b hb => .inr (HWB b hb))
            clear hm46 y45 hf45
            go_wp2_with fail
            (with_reducible refine (ftickets w46 (hB46)).mono ?_)
            rintro e w47 ⟨rfl, hB47, hm47⟩
            have hf47 := (hf46).keep hm47 HNFB
            have y47 : Mod nowhere w w47 := y46.call hm47 (fun b hb => .inr (HWB b hb))
            clear hm47 y46 hf46
            go_wp2_with fail
            (with_reducible refine (ftaken w47 (hB47) 0 rfl).mono ?_)
            rintro e w48 ⟨rfl, hB48, hm48⟩
            have hf48 := (hf47).keep hm48 HNFB
            have y48 : Mod nowhere w w48 := y47.call hm48 (fun b hb => .inr (HWB b hb))
            clear hm48 y47 hf47
            go_wp2_with fail
            (with_reducible refine (fgate w48 (hB48)).mono ?_)
            rintro e w49 ⟨rfl, hB49, hm49⟩
            have hf49 := (hf48).keep hm49 HNFB
            have y49 : Mod nowhere w w49 := y48.call hm49 (fun b hb => .inr (HWB b hb))
            clear hm49 y48 hf48
            go_wp2_with fail
            (with_reducible refine (fpulse w49 (hB49) 1 1 0 rfl (by rw [HB1.out]; omega) rfl).mono ?_)
            rintro e w50 ⟨rfl, hB50, hm50⟩
            have hf50 := (hf49).keep hm50 HNFB
            have y50 : Mod nowhere w w50 := y49.call hm50 (fun b hb => .inr (HWB b hb))
            clear hm50 y49 hf49
            go_wp2_with fail
            (with_reducible refine (farena w50 (hB50)).mono ?_)
            rintro e w51 ⟨rfl, hB51, hm51⟩
            have hf51 := (hf50).keep hm51 HNFB
            have y51 : Mod nowhere w w51 := y50.call hm51 (fun b hb => .inr (HWB b hb))
            clear hm51 y50 hf50
            go_wp2_with fail
            (with_reducible refine (falen w51 (hB51) 4 rfl).mono ?_)
            rintro e w52 ⟨rfl, hB52, hm52⟩
            have hf52 := (hf51).keep hm52 HNFB
            have y52 : Mod nowhere w w52 := y51.call hm52 (fun b hb => .inr (HWB b hb))
            clear hm52 y51 hf51
            go_wp2_with fail
            (with_reducible refine (fgate w52 (hB52)).mono ?_)
            rintro e w53 ⟨rfl, hB53, hm53⟩
            have hf53 := (hf52).keep hm53 HNFB
            have y53 : Mod nowhere w w53 := y52.call hm53 (fun b hb => .inr (HWB b hb))
            clear hm53 y52 hf52
            go_wp2_with fail
            (with_reducible refine (fsee w53 (hB53) rfl).mono ?_)
            rintro e w54 ⟨rfl, hB54, hm54⟩
            have hf54 := (hf53).keep hm54 HNFB
            have y54 : Mod nowhere w w54 := y53.call hm54 (fun b hb => .inr (HWB b hb))
            clear hm54 y53 hf53
            go_wp2_with fail
            (with_reducible refine (fdraw_any w54 (hB54) _ rfl (by rw [HB1.out]; omega) (by rw [HB2.out]; omega) (by rw [HB8.out, HB2.out]; exact HL0.out) (by rw [HB8.out]; exact HB0.out) HW).mono ?_)
            rintro e w90 ⟨rfl, hm90⟩
            go_wp2
            go_ret
            exact ⟨rfl, y54.call hm90 (fun b hb => .inr (HWB b hb))⟩
          · obtain rfl : want = 0 := hwd.2 h0
            clear hwd hwant
            have h0' : ¬ (0 : Int) < (n0 : Int) := by omega
            go_wp2_with fail
            (with_reducible refine (fvalues wr (HCA.out) [9, 2] 2 HA9.out rfl HCU.out).mono ?_)
            rintro e w40 ⟨z, rfl, hz40, hA40, hm40⟩
            have hB40 := (HCB.out).keep hm40 HNB
            have hf40 := (HCF.out).keep hm40 HNF
            have y40 : Mod nowhere w w40 := hmr.call hm40 (fun b hb => .inr (HWA b hb))
            clear hm40 hmr
            obtain ⟨Az41, cz41, rfl, hr41⟩ := hz40.reads
            clear hz40
            go_wp2_with fail
            (with_reducible refine (vals_same [9, 2] Az41 (some ⟨w40.heap.size, 0, none⟩) 2 cz41 2 w40.heap.size (w40.heap.size + 1) _ rfl (by omega) (hr41.keepMod (Nat.le_refl _) ((Mod.refl _ _).alloc _)) (reads_two (Blk.new _ _ _)) (by simp) (by simp)).mono ?_)
            rintro e w41 ⟨rfl, hm41⟩
            have m41 : Mod nowhere w40 w41 := ((Mod.refl _ _).alloc _).call0 hm41
            have hB41 := (hB40).keep0 m41
            have hf41 := (hf40).keep0 m41
            have y41 := y40.call0 m41
            clear hm41 m41 y40 hf40 hB40 hr41
            go_wp2_with fail
            (with_reducible refine (fvalues w41 (hB41) [1, 2] 2 HB9.out rfl (fun i y hy => First.cur HFB.out (by have := (List.getElem?_eq_some_iff.1 hy).1; simpa using this) hy (Nat.le_refl _))).mono ?_)
            rintro e w42 ⟨z, rfl, hz42, hB42, hm42⟩
            have hf42 := (hf41).keep hm42 HNFB
            have y42 : Mod nowhere w w42 := y41.call hm42 (fun b hb => .inr (HWB b hb))
            clear hm42 y41 hf41
            obtain ⟨Az43, cz43, rfl, hr43⟩ := hz42.reads
            clear hz42
            go_wp2_with fail
            (with_reducible refine (vals_same [1, 2] Az43 (some ⟨f, 0, none⟩) 2 cz43 2 w42.heap.size (f + 1) _ rfl (by omega) hr43 (reads_two hf42) (Nat.le_refl _) (Nat.succ_le_of_lt (Blk.lt hf42))).mono ?_)
            rintro e w43 ⟨rfl, hm43⟩
            have m43 := hm43
            have hB43 := (hB42).keep0 m43
            have hf43 := (hf42).keep0 m43
            have y43 := y42.call0 m43
            clear hm43 m43 y42 hf42 hB42 hr43
            go_wp2_with fail
            (with_reducible refine (ftrace w43 (hB43) [] rfl rfl (by omega)).mono ?_)
            rintro e w44 ⟨z, rfl, hz44, hB44, hm44⟩
            have hf44 := (hf43).keep hm44 HNFB
            have y44 : Mod nowhere w w44 := y43.call hm44 (fun b hb => .inr (HWB b hb))
            clear hm44 y43 hf43
            obtain ⟨Az44, cz44, rfl, -⟩ := hz44.reads
            clear hz44
            go_wp2_with fail
            (with_reducible refine (ftable w44 (hB44)).mono ?_)
            rintro e w45 ⟨rfl, hB45, hm45⟩
            have hf45 := (hf44).keep hm45 HNFB
            have y45 : Mod nowhere w w45 := y44.call hm45 (fun b hb => .inr (HWB b hb))
            clear hm45 y44 hf44
            go_wp2_with fail
            (with_reducible refine (fcount w45 (hB45) rfl).mono ?_)
            rintro e w46 ⟨rfl, hB46, hm46⟩
            have hf46 := (hf45).keep hm46 HNFB
            have y46 : Mod nowhere w w46 := y45.call hm46 (fun b hb => .inr (HWB b hb))
            clear hm46 y45 hf45
            go_wp2_with fail
            (with_reducible refine (ftickets w46 (hB46)).mono ?_)
            rintro e w47 ⟨rfl, hB47, hm47⟩
            have hf47 := (hf46).keep hm47 HNFB
            have y47 : Mod nowhere w w47 := y46.call hm47 (fun b hb => .inr (HWB b hb))
            clear hm47 y46 hf46
            go_wp2_with fail
            (with_reducible refine (ftaken w47 (hB47) 0 rfl).mono ?_)
            rintro e w48 ⟨rfl, hB48, hm48⟩
            have hf48 := (hf47).keep hm48 HNFB
            have y48 : Mod nowhere w w48 := y47.call hm48 (fun b hb => .inr (HWB b hb))
            clear hm48 y47 hf47
            go_wp2_with fail
            (with_reducible refine (fgate w48 (hB48)).mono ?_)
            rintro e w49 ⟨rfl, hB49, hm49⟩
            have hf49 := (hf48).keep hm49 HNFB
            have y49 : Mod nowhere w w49 := y48.call hm49 (fun b hb => .inr (HWB b hb))
            clear hm49 y48 hf48
            go_wp2_with fail
            (with_reducible refine (fpulse w49 (hB49) 1 1 0 rfl (by rw [HB1.out]; omega) rfl).mono ?_)
            rintro e w50 ⟨rfl, hB50, hm50⟩
            have hf50 := (hf49).keep hm50 HNFB
            have y50 : Mod nowhere w w50 := y49.call hm50 (fun b hb => .inr (HWB b hb))
            clear hm50 y49 hf49
            go_wp2_with fail
            (with_reducible refine (farena w50 (hB50)).mono ?_)
            rintro e w51 ⟨rfl, hB51, hm51⟩
            have hf51 := (hf50).keep hm51 HNFB
            have y51 : Mod nowhere w w51 := y50.call hm51 (fun b hb => .inr (HWB b hb))
            clear hm51 y50 hf50
            go_wp2_with fail
            (with_reducible refine (falen w51 (hB51) 4 rfl).mono ?_)
            rintro e w52 ⟨rfl, hB52, hm52⟩
            have hf52 := (hf51).keep hm52 HNFB
            have y52 : Mod nowhere w w52 := y51.call hm52 (fun b hb => .inr (HWB b hb))
            clear hm52 y51 hf51
            go_wp2_with fail
            (with_reducible refine (fgate w52 (hB52)).mono ?_)
            rintro e w53 ⟨rfl, hB53, hm53⟩
            have hf53 := (hf52).keep hm53 HNFB
            have y53 : Mod nowhere w w53 := y52.call hm53 (fun b hb => .inr (HWB b hb))
            clear hm53 y52 hf52
            go_wp2_with fail
            (with_reducible refine (fsee w53 (hB53) rfl).mono ?_)
            rintro e w54 ⟨rfl, hB54, hm54⟩
            have hf54 := (hf53).keep hm54 HNFB
            have y54 : Mod nowhere w w54 := y53.call hm54 (fun b hb => .inr (HWB b hb))
            clear hm54 y53 hf53
            go_wp2_with fail
            (with_reducible refine (fdraw_any w54 (hB54) _ rfl (by rw [HB1.out]; omega) (by rw [HB2.out]; omega) (by rw [HB8.out, HB2.out]; exact HL0.out) (by rw [HB8.out]; exact HB0.out) HW).mono ?_)
            rintro e w90 ⟨rfl, hm90⟩
            go_wp2
            go_ret
            exact ⟨rfl, y54.call hm90 (fun b hb => .inr (HWB b hb))⟩
end Go.Proofs.Ytcfpgecchappoaa
