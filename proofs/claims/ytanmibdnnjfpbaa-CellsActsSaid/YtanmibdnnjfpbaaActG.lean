/- The law CellsActs where cells were made, walked. -/
import Derived.Test.YtanmibdnnjfpbaaActX
namespace Go.Proofs.Ytanmibdnnjfpbaa
open Go.RowKit
set_option maxRecDepth 100000 in
set_option maxHeartbeats 40000000 in
theorem acts_good (x : Int) (hx0 : 0 ≤ x) (hx1 : x ≤ 255) (A : Option Addr) (n0 c0 : Nat) (l : List Int) (A3 : Option Addr) (n3 c3 : Nat) (l3 : List (Nat → Int)) (w : World) (hl : l.length = n0) (hr : Reads w w.heap.size 1 A n0 (l.map (Value.int .i64))) (hl3 : l3.length = n3) (hr3 : IntRows w w.heap.size A3 n3 5 l3) (hi3 : ∀ y ∈ l3, ∀ j, j < 5 → I64 (y j)) (g0 : ¬ 100 < n3) (g1 : ¬ 20 < n0) (mm : Nat) (hmm0 : x % 64 = mm) (k1 : 1 ≤ n0) (k8 : n0 ≤ 8) (hfit : 2 * (n0 : Int) ≤ 1 + (mm : Int)) :
    Calls Try.prog 3 #[.int .u8 x, .slice A n0 c0, .slice A3 n3 c3] w
     fun en w' => en = .returned (.bool true) ∧ Mod nowhere w w' := by
  have hm64 : mm < 64 := by omega
  obtain ⟨b, o, rfl, hbl, hx⟩ := hr.form (by omega) (by omega)
  have HX := hide (show ∀ k x, l[k]? = some x → w.cell? ⟨b, o + k, none⟩ = some (.int .i64 x) from fun k x hk => hx k _ (by simp [hk]))
  have HL := hide hl
  have HL3 := hide hl3
  have HR3 := hide hr3
  have HI3 := hide hi3
  have z1 : decide (n0 < 1) = false := by simp; omega
  have z2 : decide (8 < n0) = false := by simp; omega
  have iw : IntKind.i64.wrap (2 * (n0 : Int)) = 2 * (n0 : Int) := IntWalk.i64_in _ (by omega)
  clear hx hl hr hl3 hr3 hi3
  go_enter Try.func3, Try.ntmps3
  go_wp2_with fail
  (with_reducible refine (alive4_calls _).mono ?_)
  rintro e w1 ⟨rfl, hbw1⟩
  have hzw1 := hbw1.size
  (try simp at hzw1)
  skip
  skip
  have y1 : Mod nowhere w w1 := (by repeat (first | with_reducible exact Mod.refl _ _ | with_reducible assumption | with_reducible refine Mod.alloc ?_ _ | with_reducible refine Mod.drew ?_ | with_reducible refine Mod.drewN ?_ _ | with_reducible refine Mod.setCell ?_ (by first | exact .inl rfl | (left; (try unfold from_); show _ ≤ _; first | omega | (simp; done) | (simp; omega)) | (right; first | omega | (simp; done) | (simp; omega))) _ | with_reducible refine Mod.call0 ?_ (by with_reducible assumption) | with_reducible refine Mod.call ?_ (by with_reducible assumption) (by first | (rintro _ rfl; first | exact .inl rfl | (right; (first | omega | (simp; done) | (simp; omega)))) | (rintro _ (rfl | rfl) <;> (right; (first | omega | (simp; done) | (simp; omega)))))))
  go_wp2_with fail
  (with_reducible refine (made4_calls (1 + (mm : Int)) l b o c0 n0 _ HL.out k1 k8 hfit (by omega) (Nat.lt_of_lt_of_le hbl y1.size) (fun k x hk => (y1.cell (o + k) hbl id).trans (HX.out k x hk))).mono ?_)
  rintro e w2 ⟨K, r, cs, rfl, hk, hmo, hS, hFi, hm2⟩
  obtain ⟨B, hB⟩ : ∃ B, B = w1.heap.size := ⟨_, rfl⟩
  rw [← hB] at hS
  have y2 := y1.call0 hm2
  have zB : w.heap.size ≤ B := by have := y1.size; omega
  have z2w : B ≤ w2.heap.size := by have := hm2.size; omega
  have HMO := hide hmo
  have HS2 := hide hS
  have HFi := hide hFi
  subst hk
  have zk : ((K.k : Int) != 0) = true := by simp; omega
  have hmk := @run_makeMap Try.prog
  clear hmo hS hFi hm2 y1 hB
  go_wp2_with ((go_at_call 6; (with_reducible refine (obj_calls K.c K.a K.rc K.k K.ws _ (HS2.out.cf.cls.keep0 ((by repeat (first | with_reducible exact Mod.refl _ _ | with_reducible assumption | with_reducible refine Mod.alloc ?_ _ | with_reducible refine Mod.drew ?_ | with_reducible refine Mod.drewN ?_ _ | with_reducible refine Mod.setCell ?_ (by first | exact .inl rfl | (left; (try unfold from_); show _ ≤ _; first | omega | (simp; done) | (simp; omega)) | (right; first | omega | (simp; done) | (simp; omega))) _ | with_reducible refine Mod.call0 ?_ (by with_reducible assumption) | with_reducible refine Mod.call ?_ (by with_reducible assumption) (by first | (rintro _ rfl; first | exact .inl rfl | (right; (first | omega | (simp; done) | (simp; omega)))) | (rintro _ (rfl | rfl) <;> (right; (first | omega | (simp; done) | (simp; omega))))))) : Mod nowhere w2 _))).mono ?_); rintro e w3 ⟨rfl, hbw3⟩; have hzw3 := hbw3.size; (try simp at hzw3); skip; skip))
  obtain ⟨W, hW⟩ : ∃ W, W = (w3.alloc (.map #[] 0)).alloc (.cells #[.int .i64 (1 + (mm : Int)), .slice none 0 0, .slice none 0 0, .map (some w3.heap.size)] 37) := ⟨_, rfl⟩
  have hmz : IsZMap W w3.heap.size 0 (fun _ => 0) := by rw [hW]; exact (IsZMap.made w3).keep0 ((Mod.refl _ _).alloc _)
  have hbg : Blk W (w3.heap.size + 1) 37 #[.int .i64 (1 + (mm : Int)), .slice none 0 0, .slice none 0 0, .map (some w3.heap.size)] := by
    have := Blk.new (w3.alloc (.map #[] 0)) 37 #[.int .i64 (1 + (mm : Int)), .slice none 0 0, .slice none 0 0, .map (some w3.heap.size)]
    rw [hW]
    simpa using this
  have m3W : Mod nowhere w3 W := by rw [hW]; exact ((Mod.refl _ _).alloc _).alloc _
  have yW : Mod nowhere w W := (y2.call0 hbw3).call0 m3W
  have m2W : Mod nowhere w2 W := hbw3.call0 m3W
  rw [← hW]
  clear hW m3W hbw3
  obtain ⟨g, hg⟩ : ∃ g, g = w3.heap.size + 1 := ⟨_, rfl⟩
  obtain ⟨m, hm⟩ : ∃ m, m = w3.heap.size := ⟨_, rfl⟩
  rw [← hg] at hbg ⊢
  rw [← hm] at hmz hbg
  have lg := hbg.lt
  have zW := yW.size
  (with_reducible refine (rstart_calls l g m b o c0 K.k (1 + (mm : Int)) W hbg HL.out k1 k8 hfit (by omega) (by omega) (by omega) (fun k x hk => (yW.cell (o + k) hbl id).trans (HX.out k x hk))).mono ?_)
  rintro e w5 ⟨rfl, rl, ra, ca, cs2, hL5, hrow5, hF5, lrl, lra, hm5⟩
  have hmap5 := hmz.keep hm5 (show ¬ m = g by omega)
  have hS5 : Sys w5 B K r (2 * K.k) cs (fun i => 2 * i + 1) 0 (fun _ => none) (fun _ => 0) (fun _ => 0) := (HS2.out.keep0 m2W).keep hm5 (fun b hb e => by have := HS2.out.lt hb; omega)
  have hcs : cs2 = cs := First.eq hF5 HFi.out HL.out (Own.len hL5) HS2.out.cf.arn.len
  rw [hcs] at hL5
  have y5 : Mod nowhere w w5 := yW.call hm5 (fun b hb => .inr (by omega))
  have z5 := hm5.size
  have hsy : Sync w5 B K r (2 * K.k) cs (fun i => 2 * i + 1) 0 (fun _ => none) (fun _ => 0) (fun _ => 0) g rl ra m ca 0 (1 + (mm : Int)) := by
    refine ⟨⟨hS5, ⟨hL5, hrow5, hmap5, by omega⟩, fun b hb e => ?_, ⟨by omega, by omega, by omega, by omega⟩, by omega⟩, HFi.out.good HL.out, fun i hi => ⟨by omega, ?_⟩, HMO.out, k1⟩
    · have := HS2.out.lt hb
      rcases e with e | e | e | e <;> omega
    · exact (HFi.out i _ hi (List.getElem?_eq_getElem (by have := HL.out; omega))).2.kind
  have HSY := hide hsy
  have HY5 := hide y5
  clear hsy y5 hS5 hL5 hrow5 hmap5 hF5 hm5 hmz hbg yW m2W y2 hcs HS2 HFi hmk hg hm lg
  go_wp2_with fail
  go_loopw [14, 15, 16, 17, 18, 19, 20, 21, 22, 23, 24, 25, 26, 102, 139, 207, 302, 333] (fun s14 _ _ _ _ _ _ _ _ _ _ _ _ _ _ _ _ _ wx => ∃ (i r N : Nat) (cs : List Value) (v : Nat → Nat) (nd : Nat) (M : Int → Option Nat) (q : Int → Nat) (st : Int → Int) (rl nm : Nat), s14 = .int .i64 i ∧ i ≤ n3 ∧ Sync wx B K r N cs v nd M q st g rl ra m ca nm (1 + (mm : Int)) ∧ nm ≤ i ∧ Mod nowhere w wx)
    (fun s14 _ _ _ _ _ _ _ _ _ _ _ _ _ _ _ _ _ _ => (300 - (intOf s14)).toNat)
  case atStart => exact ⟨0, r, _, cs, _, _, _, _, _, rl, 0, rfl, Nat.zero_le _, HSY.out, Nat.le_refl _, HY5.out⟩
  case round =>
    obtain ⟨i, r, N, cs, v, nd, M, q, st, rl, nm, rfl, hin, hS, hnm, hmr⟩ := hrel
    clear HSY HY5
    have hsz := hmr.size
    have HS := hide hS
    clear hS
    by_cases hlt : i < n3
    · have hlt' : (i : Int) < (n3 : Int) := by omega
      obtain ⟨b3, o3, rfl, hb3, hc3⟩ := HR3.out (by omega)
      obtain ⟨y, hy⟩ : ∃ y, l3[i]? = some y := ⟨_, List.getElem?_eq_getElem (show i < l3.length by have := HL3.out; omega)⟩
      have hI := HI3.out y (List.mem_of_getElem? hy)
      have d0 := (hmr.cell (o3 + (i * 5 + 0)) hb3 id).trans (hc3 i y hy 0 (by omega))
      have d1 := (hmr.cell (o3 + (i * 5 + 1)) hb3 id).trans (hc3 i y hy 1 (by omega))
      have d2 := (hmr.cell (o3 + (i * 5 + 2)) hb3 id).trans (hc3 i y hy 2 (by omega))
      have d3 := (hmr.cell (o3 + (i * 5 + 3)) hb3 id).trans (hc3 i y hy 3 (by omega))
      have d4 := (hmr.cell (o3 + (i * 5 + 4)) hb3 id).trans (hc3 i y hy 4 (by omega))
      have I1 := hide (hI 1 (by omega))
      have I2 := hide (hI 2 (by omega))
      have I3 := hide (hI 3 (by omega))
      clear hy hc3 hI
      generalize y 0 = x0 at *
      generalize y 1 = x1 at *
      generalize y 2 = x2 at *
      generalize y 3 = x3 at *
      generalize y 4 = x4 at *
      simp only [Nat.add_zero, ← Nat.add_assoc] at d0 d1 d2 d3 d4
      go_upto_block 2 with fail
      obtain ⟨W, hW⟩ : ∃ W, W = wr.alloc (.cells #[.int .i64 x0, .int .i64 x1, .int .i64 x2, .int .i64 x3, .int .i64 x4] 40) := ⟨_, rfl⟩
      have m0W : Mod nowhere wr W := by rw [hW]; exact (Mod.refl _ _).alloc _
      have yW : Mod nowhere w W := hmr.call0 m0W
      have hab : Blk W wr.heap.size 40 #[.int .i64 x0, .int .i64 x1, .int .i64 x2, .int .i64 x3, .int .i64 x4] := by rw [hW]; exact Blk.new _ _ _
      have HS0 := HS
      have HS := hide (HS0.out.keep0 m0W)
      rw [← hW]
      clear hW d0 d1 d2 d3 d4 HS0 m0W hmr
      have HNA := hide (HS.out.duo.notAct hab)
      have hN4 : N ≤ 4096 := by have := HS.out.duo.sys.fit; have := HS.out.duo.sys.m4; omega
      have zmm : 1 + (mm : Int) ≤ 64 := by omega
      go_cut [16] (fun _ wx => ∃ (r N : Nat) (cs : List Value) (v : Nat → Nat) (nd : Nat) (M : Int → Option Nat) (q : Int → Nat) (st : Int → Int) (rl nm : Nat), Sync wx B K r N cs v nd M q st g rl ra m ca nm (1 + (mm : Int)) ∧ nm ≤ i + 1 ∧ Blk wx wr.heap.size 40 #[.int .i64 x0, .int .i64 x1, .int .i64 x2, .int .i64 x3, .int .i64 x4] ∧ Mod nowhere w wx)
      case first =>
        apply sw_of
        case h =>
          intro h
          unfold SwWp at h
          simp only [Try.f3, Option.bind, findB, reduceCtorEq, if_false, if_true, Nat.reduceEqDiff, Option.orElse, Option.getD] at h
          exact h
        case h2 =>
          refine sw_all B g ra m ca mm i n3 r N nd rl nm K cs v M q st x0 x1 x2 x3 x4 w W wr hlt HS HMO zB yW hab HNA hN4 zmm hnm (by omega) I1 I2 I3 _ _ _ _ _ _ _ _ _ _ _ _ _ _ _ _ _ _ _ _ _ _ _ _ _ _ _ _ _ _ _ _ _ _ _ _ _ _ _ _ _ _ _ _ _ _ _ _ _ _ _ _ _ _ _ _ _ _ _ _ _ _ _ _ _ _ _ _ _ _ _ _ _ _ _ _ _ _ _ _ _ _ _ _ _ _ _ _ _ _ _ _ _ _ _ _ _ _ _ _ _ _ _ _ _ _ _ _ _ _ _ _ _ _ _ _ _ _ _ _ _ _ _ _ _ _ _ _ _ _ _ _ _ _ _ _ _ _ _ _ _ _ _ _ _ _ _ _ _ _ _ _ _ _ _ _ _ _ _ _ _ _ _ _ _ _ _ _ _ _ _ _ _ _ _ _ _ _ _ _ _ _ _ _ _ _ _ _ _ _ _ _ _ _ _ _ _ _ _ _ _ _ _ _ _ _ _ _ _ _ _ _ _ _ _ _ _ _ _ _ _ _ _ _ _ _ _ _ _ _ _ _ _ _ _ _ _ _ _ _ _ _ _ _ _ _ _ _ _ _ _ _ _ _ _ _ _ _ _ _ _ _ _ _ _ _ _ _ _ _ _ _ _ _ _ _ _ _ _ _ _ _ _ _ _ _ _ _ _ _ _ _ _ _ _ _ _ _ _ _ _ _ _ _ _ _ _ _ _ _ _ _ _ _ _ _ _ _ _ _ _ _ _ _ _ _ _ _ _ _ _ _ _ _ _ _ _ _ _ _ _ _ _ _ _ _ _ _ _ _ _ _ _ _ _ _ _ _ _ _ _ _ ?_ ?_ ?_
          · intro _ _ _ _ _ _ _ _ _ _ _ _ _ _ _ _ _ _ _ _ _ _ _ _ _ _ _ _ _ _ _ _ _ _ _ _ _ _ _ _ _ _ _ _ _ _ _ _ _ _ _ _ _ _ _ _ _ _ _ _ _ _ _ _ _ _ _ _ _ _ _ _ _ _ _ _ _ _ _ _ _ _ _ _ _ _ _ _ _ _ _ _ _ _ _ _ _ _ _ _ _ _ _ _ _ _ _ _ _ _ _ _ _ _ _ _ _ _ _ _ _ _ _ _ _ _ _ _ _ _ _ _ _ _ _ _ _ _ _ _ _ _ _ _ _ _ _ _ _ _ _ _ _ _ _ _ _ _ _ _ _ _ _ _ _ _ _ _ _ _ _ _ _ _ _ _ _ _ _ _ _ _ _ _ _ _ _ _ _ _ _ _ _ _ _ _ _ _ _ _ _ _ _ _ _ _ _ _ _ _ _ _ _ _ _ _ _ _ _ _ _ _ _ _ _ _ _ _ _ _ _ _ _ _ _ _ _ _ _ _ _ _ _ _ _ _ _ _ _ _ _ _ _ _ _ _ _ _ _ _ _ _ _ _ _ _ _ _ _ _ _ _ _ _ _ _ wx hrel
            as_aux_lemma =>
              go_step
              go_meet
              exact hrel
          · intro _ _ _ _ _ _ _ _ _ _ _ _ _ _ _ _ _ _ _ _ _ _ _ _ _ _ _ _ _ _ _ _ _ _ _ _ _ _ _ _ _ _ _ _ _ _ _ _ _ _ _ _ _ _ _ _ _ _ _ _ _ _ _ _ _ _ _ _ _ _ _ _ _ _ _ _ _ _ _ _ _ _ _ _ _ _ _ _ _ _ _ _ _ _ _ _ _ _ _ _ _ _ _ _ _ _ _ _ _ _ _ _ _ _ _ _ _ _ _ _ _ _ _ _ _ _ _ _ _ _ _ _ _ _ _ _ _ _ _ _ _ _ _ _ _ _ _ _ _ _ _ _ _ _ _ _ _ _ _ _ _ _ _ _ _ _ _ _ _ _ _ _ _ _ _ _ _ _ _ _ _ _ _ _ _ _ _ _ _ _ _ _ _ _ _ _ _ _ _ _ _ _ _ _ _ _ _ _ _ _ _ _ _ _ _ _ _ _ _ _ _ _ _ _ _ _ _ _ _ _ _ _ _ _ _ _ _ _ _ _ _ _ _ _ _ _ _ _ _ _ _ _ _ _ _ _ _ _ _ _ _ _ _ _ _ _ _ _ _ _ _ _ _ _ _ _ wx hm
            as_aux_lemma =>
              go_wp2
              go_ret
              exact ⟨rfl, hm⟩
          · intro _ _ _ _ _ _ _ _ _ _ _ _ _ _ _ _ _ _ _ _ _ _ _ _ _ _ _ _ _ _ _ _ _ _ _ _ _ _ _ _ _ _ _ _ _ _ _ _ _ _ _ _ _ _ _ _ _ _ _ _ _ _ _ _ _ _ _ _ _ _ _ _ _ _ _ _ _ _ _ _ _ _ _ _ _ _ _ _ _ _ _ _ _ _ _ _ _ _ _ _ _ _ _ _ _ _ _ _ _ _ _ _ _ _ _ _ _ _ _ _ _ _ _ _ _ _ _ _ _ _ _ _ _ _ _ _ _ _ _ _ _ _ _ _ _ _ _ _ _ _ _ _ _ _ _ _ _ _ _ _ _ _ _ _ _ _ _ _ _ _ _ _ _ _ _ _ _ _ _ _ _ _ _ _ _ _ _ _ _ _ _ _ _ _ _ _ _ _ _ _ _ _ _ _ _ _ _ _ _ _ _ _ _ _ _ _ _ _ _ _ _ _ _ _ _ _ _ _ _ _ _ _ _ _ _ _ _ _ _ _ _ _ _ _ _ _ _ _ _ _ _ _ _ _ _ _ _ _ _ _ _ _ _ _ _ _ _ _ _ _ _ _ _ _ _ _ wx hrel
            as_aux_lemma =>
              obtain ⟨r2, N2, cs2, v2, nd2, M2, q2, st2, rl2, nm2, hS2, hn2, hm2⟩ := hrel
              go_wp2
              refine ⟨⟨i + 1, r2, N2, cs2, v2, nd2, M2, q2, st2, rl2, nm2, by go_num, by omega, hS2, hn2, hm2⟩, ?_⟩
              simp [intOf] <;> omega
      case rest =>
        obtain ⟨r, N, cs, v, nd, M, q, st, rl, nm, hS, hnm2, hab, hmc⟩ := hcut
        have HS := hide hS
        have HNA := hide (HS.out.duo.notAct hab)
        clear hS
        have c_hab := hab.cell; have f_hab := hab.frozen; have l_hab := hab.lt
        as_aux_lemma =>
          obtain ⟨vals, hvl, hvc⟩ := HS.out.vals
          have HVL := hide hvl
          have HVC := hide hvc
          clear hvl hvc
          go_wp2_with fail
          (with_reducible refine (sys_all_n _ HS.out.duo.sys vals K.k rfl HVL.out HVC.out).mono ?_)
          rintro e w6 ⟨z, rfl, hz, hs6, hm6⟩
          have S6 := hide (HS.out.duo' (HS.out.duo.stepW hs6 hm6))
          have y6 : Mod nowhere w w6 := hmc.call hm6 (fun b hb => .inr (Nat.le_trans zB (HS.out.duo.ge (.inl hb.in_))))
          obtain ⟨Az, cz, rfl, hrz⟩ := hz.reads
          have hab6 := hab.keep hm6 (fun e => HNA.out.1 e.in_)
          clear hz hs6 hm6
          go_wp2_with fail
          (with_reducible refine (rall_calls w6 S6.out.duo.ref k8 vals HVL.out HVC.out).mono ?_)
          rintro e w7 ⟨z2, rfl, hz2, hm7⟩
          obtain ⟨Az2, cz2, rfl, hrz2⟩ := hz2.reads
          have hrz7 := hrz.keepMod (Nat.le_refl _) hm7
          have zz7 := hm7.size
          clear hz2 hrz
          go_wp2_with fail
          (with_reducible refine (vals_same vals Az Az2 K.k cz cz2 w6.heap.size w7.heap.size w7 HVL.out (by omega) hrz7 hrz2 zz7 (Nat.le_refl _)).mono ?_)
          rintro e w8 ⟨rfl, hm8⟩
          clear hrz7 hrz2
          have S8 := hide ((S6.out.keep0 hm7).keep0 hm8)
          have hab8 := (hab6.keep0 hm7).keep0 hm8
          have y8 := (y6.call0 hm7).call0 hm8
          clear hm7 hm8 hab6 c_hab f_hab l_hab
          have c_hab8 := hab8.cell; have f_hab8 := hab8.frozen; have l_hab8 := hab8.lt
          go_wp2_with fail
          (with_reducible refine (looks_calls w8 S8.out x1 I1.out).mono ?_)
          rintro e w9 ⟨rfl, S9, hm9⟩
          have y9 : Mod nowhere w w9 := y8.call hm9 (fun b hb => .inr (Nat.le_trans zB (S8.out.duo.ge (.inl hb.in_))))
          have HS9 := hide S9
          clear S9 hm9
          go_wp2
          go_roundw
          case rel => exact ⟨i + 1, r, N, cs, v, nd, M, q, st, rl, nm, by go_num, by omega, HS9.out, by omega, y9⟩
          case measure => simp [intOf] <;> omega
    · obtain rfl : i = n3 := by omega
      as_aux_lemma =>
        obtain ⟨vals, hvl, hvc⟩ := HS.out.vals
        have HVL := hide hvl
        have HVC := hide hvc
        clear hvl hvc
        go_wp2_with ((go_at_call 6; (with_reducible refine (obj_calls K.c K.a K.rc K.k K.ws _ (HS.out.duo.sys.cf.cls.keep0 ((by repeat (first | with_reducible exact Mod.refl _ _ | with_reducible assumption | with_reducible refine Mod.alloc ?_ _ | with_reducible refine Mod.drew ?_ | with_reducible refine Mod.drewN ?_ _ | with_reducible refine Mod.setCell ?_ (by first | exact .inl rfl | (left; (try unfold from_); show _ ≤ _; first | omega | (simp; done) | (simp; omega)) | (right; first | omega | (simp; done) | (simp; omega))) _ | with_reducible refine Mod.call0 ?_ (by with_reducible assumption) | with_reducible refine Mod.call ?_ (by with_reducible assumption) (by first | (rintro _ rfl; first | exact .inl rfl | (right; (first | omega | (simp; done) | (simp; omega)))) | (rintro _ (rfl | rfl) <;> (right; (first | omega | (simp; done) | (simp; omega))))))) : Mod nowhere wr _))).mono ?_); rintro e w5 ⟨rfl, hbw5⟩; have hzw5 := hbw5.size; (try simp at hzw5); skip; skip))
        have ym5 : Mod nowhere wr w5 := (by repeat (first | with_reducible exact Mod.refl _ _ | with_reducible assumption | with_reducible refine Mod.alloc ?_ _ | with_reducible refine Mod.drew ?_ | with_reducible refine Mod.drewN ?_ _ | with_reducible refine Mod.setCell ?_ (by first | exact .inl rfl | (left; (try unfold from_); show _ ≤ _; first | omega | (simp; done) | (simp; omega)) | (right; first | omega | (simp; done) | (simp; omega))) _ | with_reducible refine Mod.call0 ?_ (by with_reducible assumption) | with_reducible refine Mod.call ?_ (by with_reducible assumption) (by first | (rintro _ rfl; first | exact .inl rfl | (right; (first | omega | (simp; done) | (simp; omega)))) | (rintro _ (rfl | rfl) <;> (right; (first | omega | (simp; done) | (simp; omega)))))))
        (with_reducible refine (sys_all_n _ (HS.out.duo.sys.keep0 ym5) vals K.k rfl HVL.out HVC.out).mono ?_)
        rintro e w6 ⟨z, rfl, hz, hs6, hm6⟩
        have S6 := hide ((HS.out.keep0 ym5).duo' ((HS.out.keep0 ym5).duo.stepW hs6 hm6))
        have y6 : Mod nowhere w w6 := (hmr.call0 ym5).call hm6 (fun b hb => .inr (Nat.le_trans zB ((HS.out.keep0 ym5).duo.ge (.inl hb.in_))))
        obtain ⟨Az, cz, rfl, hrz⟩ := hz.reads
        clear hz hs6 hm6
        go_wp2_with fail
        (with_reducible refine (rall_calls w6 S6.out.duo.ref k8 vals HVL.out HVC.out).mono ?_)
        rintro e w7 ⟨z2, rfl, hz2, hm7⟩
        obtain ⟨Az2, cz2, rfl, hrz2⟩ := hz2.reads
        have hrz7 := hrz.keepMod (Nat.le_refl _) hm7
        have zz7 := hm7.size
        clear hz2 hrz
        go_wp2_with fail
        (with_reducible refine (vals_same vals Az Az2 K.k cz cz2 w6.heap.size w7.heap.size w7 HVL.out (by omega) hrz7 hrz2 zz7 (Nat.le_refl _)).mono ?_)
        rintro e w8 ⟨rfl, hm8⟩
        clear hrz7 hrz2
        go_wp2
        go_ret
        exact ⟨rfl, (y6.call0 hm7).call0 hm8⟩
end Go.Proofs.Ytanmibdnnjfpbaa
