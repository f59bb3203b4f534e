/- Descriptors have nothing to do with each other: the law DescOwn, walked. -/
import Derived.Test.YtelammmgcfmlbaaDescFam
import Derived.IntWalk
namespace Go.Proofs.Ytelammmgcfmlbaa
open Go.RowKit

/-- What the records of the first k descriptors hold. -/
def Recs (l : List Int) (k : Nat) (cs : List Value) : Prop := ∀ i x, i < k → l[i]? = some x →
  cs[i * 9]? = some (.int .i64 3) ∧ cs[i * 9 + 1]? = some (.int .i64 0) ∧ cs[i * 9 + 2]? = some (.int .i64 0) ∧ cs[i * 9 + 3]? = some (.int .i64 0) ∧ cs[i * 9 + 4]? = some (.int .i64 0) ∧ cs[i * 9 + 5]? = some (.int .i64 i) ∧ cs[i * 9 + 6]? = some (.int .i64 ((i : Int) + 1)) ∧ cs[i * 9 + 7]? = some (.int .i64 ((i : Int) + 2)) ∧ cs[i * 9 + 8]? = some (.int .i64 x)
theorem Recs.snoc {l : List Int} {k : Nat} {cs : List Value} {x : Int} (h : Recs l k cs) (hc : cs.length = k * 9) (hx : l[k]? = some x) :
    Recs l (k + 1) (cs ++ [.int .i64 3, .int .i64 0, .int .i64 0, .int .i64 0, .int .i64 0, .int .i64 k, .int .i64 ((k : Int) + 1), .int .i64 ((k : Int) + 2), .int .i64 x]) := by
  intro i y hi hy
  by_cases hik : i < k
  · obtain ⟨h0, h1, h2, h3, h4, h5, h6, h7, h8⟩ := h i y hik hy
    refine ⟨?_, ?_, ?_, ?_, ?_, ?_, ?_, ?_, ?_⟩
    all_goals rw [List.getElem?_append_left (by omega)]; assumption
  · obtain rfl : i = k := by omega
    rw [hx] at hy
    obtain rfl := Option.some.inj hy
    refine ⟨?_, ?_, ?_, ?_, ?_, ?_, ?_, ?_, ?_⟩
    all_goals rw [List.getElem?_append_right (by omega), hc]; simp
def Plain (N j : Nat) (q : Int) (P W St : Nat → Int) : Prop := (∀ i, i < N → i ≠ j → P i = i ∧ W i = 0 ∧ St i = 1) ∧ P j = j + q ∧ W j = 1

set_option maxRecDepth 100000 in
set_option maxHeartbeats 8000000 in
theorem law_descOwn (A : Option Addr) (n c : Nat) (l : List Int) (who to raises : Int) (w : World) (hl : l.length = n) (hr : Reads w w.heap.size 1 A n (l.map (Value.int .u8))) (hw8 : ∀ x ∈ l, 0 ≤ x ∧ x ≤ 255) (hw0 : 0 ≤ who) (hw1 : who ≤ 255) (hr0 : 0 ≤ raises) (hr1 : raises ≤ 255) :
    Calls Try.prog 4 #[.slice A n c, .int .u8 who, .int .i64 to, .int .u8 raises] w
     fun en w' => en = .returned (.bool true) ∧ Mod nowhere w w' := by
  by_cases g0 : n < 1 ∨ 60 < n
  · go_enter Try.func4, Try.ntmps4
    go_wp2_with fail
    (with_reducible refine (alive3_calls _).mono ?_)
    rintro e w1 ⟨rfl, hbw1⟩
    have hzw1 := hbw1.size
    (try simp at hzw1)
    skip
    skip
    go_wp2
    all_goals first | (exfalso; omega) | skip
    all_goals go_ret
    all_goals exact ⟨rfl, (by repeat (first | with_reducible exact Mod.refl _ _ | with_reducible assumption | with_reducible refine Mod.alloc ?_ _ | with_reducible refine Mod.drew ?_ | with_reducible refine Mod.drewN ?_ _ | with_reducible refine Mod.setCell ?_ (by first | exact .inl rfl | (left; (try unfold from_); show _ ≤ _; first | omega | (simp; done) | (simp; omega)) | (right; first | omega | (simp; done) | (simp; omega))) _ | with_reducible refine Mod.call0 ?_ (by with_reducible assumption) | with_reducible refine Mod.call ?_ (by with_reducible assumption) (by first | (rintro _ rfl; first | exact .inl rfl | (right; (first | omega | (simp; done) | (simp; omega)))) | (rintro _ (rfl | rfl) <;> (right; (first | omega | (simp; done) | (simp; omega)))))))⟩
  have g1 : 1 ≤ n := by omega
  have g2 : n ≤ 60 := by omega
  have HR := hide hr
  have HL := hide hl
  have HW := hide hw8
  clear hr hl hw8 g0
  have z1 : decide (n < 1) = false := by simp; omega
  have z2 : decide (60 < n) = false := by simp; omega
  go_enter Try.func4, Try.ntmps4
  go_wp2_with fail
  (with_reducible refine (alive3_calls _).mono ?_)
  rintro e w0 ⟨rfl, hbw0⟩
  have hzw0 := hbw0.size
  (try simp at hzw0)
  skip
  skip
  go_wp2_with fail
  (with_reducible refine (made_calls 64 _ (by decide) (by decide)).mono ?_)
  rintro e w1 ⟨a, m, t, rfl, ha, ht, hm, b1, b2, b3, n1, n2, n3, m1⟩
  have y1 : Mod nowhere w w1 := (by repeat (first | with_reducible exact Mod.refl _ _ | with_reducible assumption | with_reducible refine Mod.alloc ?_ _ | with_reducible refine Mod.drew ?_ | with_reducible refine Mod.drewN ?_ _ | with_reducible refine Mod.setCell ?_ (by first | exact .inl rfl | (left; (try unfold from_); show _ ≤ _; first | omega | (simp; done) | (simp; omega)) | (right; first | omega | (simp; done) | (simp; omega))) _ | with_reducible refine Mod.call0 ?_ (by with_reducible assumption) | with_reducible refine Mod.call ?_ (by with_reducible assumption) (by first | (rintro _ rfl; first | exact .inl rfl | (right; (first | omega | (simp; done) | (simp; omega)))) | (rintro _ (rfl | rfl) <;> (right; (first | omega | (simp; done) | (simp; omega)))))))
  have zz1 := y1.size
  have hF0 : Fam w1 w.heap.size t a a m 0 [] (fun _ => 0) (fun _ => 0) (fun _ => 0) (fun _ => 0) (fun _ => 0) :=
    { tab := ht, map := hm.congr (fun z => by unfold famMap; rw [if_neg (by omega)]), arn := ha, wds := fun i hi => absurd hi (by omega), wrd := fun i hi => absurd hi (by omega), dd := fun i j hi => absurd hi (by omega), ds := fun i j hi => absurd hi (by omega), ap := fun i hi => absurd hi (by omega), bs := fun i hi => absurd hi (by omega), ne := by omega, old := by omega }
  clear ha ht hm
  go_wp2_with fail
  go_loopw [11, 12, 13] (fun s11 _ _ wx => ∃ (k r : Nat) (cs : List Value) (D S : Nat → Nat) (P W St : Nat → Int), s11 = .int .i64 k ∧ k ≤ n ∧ Fam wx w.heap.size t a r m k cs D S P W St ∧ (∀ i, i < k → P i = i ∧ W i = 0 ∧ St i = 1) ∧ Recs l k cs ∧ Mod nowhere w wx)
    (fun s11 _ _ _ => (300 - (intOf s11)).toNat)
  case atStart => exact ⟨0, a, [], _, _, _, _, _, rfl, Nat.zero_le _, hF0, fun i hi => absurd hi (by omega), fun i x hi => absurd hi (by omega), y1⟩
  case round =>
    obtain ⟨k, r, cs, D, S, P, W, St, rfl, hk, hF, hP, hRc, hmr⟩ := hrel
    have hsz := hmr.size
    by_cases hlt : k < n
    · obtain ⟨b, o, rfl, hbl, hcell⟩ := HR.out.form (by omega) (by omega)
      have hx' : l[k]? = some (l[k]'(by have := HL.out; omega)) := List.getElem?_eq_getElem (by have := HL.out; omega)
      have hmem : l[k]'(by have := HL.out; omega) ∈ l := List.getElem_mem _
      obtain ⟨hx0, hx1⟩ := HW.out _ hmem
      generalize l[k]'(by have := HL.out; omega) = x at hx' hx0 hx1
      have hcd := (hmr.cell (o + k) hbl (fun x => x)).trans (hcell k (.int .u8 x) (by rw [List.getElem?_map, hx']; rfl))
      have HX := hide hx'
      have HP := hide hP
      have HRc := hide hRc
      have hbr : b < wr.heap.size := by omega
      clear hx' hmem hcell hP hRc
      go_wp2_with fail
      (with_reducible refine (begin_calls t a r m k k 64 cs (famMap k D) (k : Int) ((k : Int) + 1) ((k : Int) + 2) x (k : Int) _ hF.tab hF.map hF.arn (by omega) (by omega) (by omega) (by have := hF.ne; omega) (by omega) (by omega) (by omega) hx0 (by omega)).mono ?_)
      rintro e w5 ⟨rfl, hp5, hm5⟩
      obtain ⟨r', d, s, hF5⟩ := hF.more hsz hp5 hm5
      have hold := hF.old
      have y5 : Mod nowhere w w5 := hmr.call hm5 (by rintro i (rfl | rfl | rfl) <;> (right; omega))
      go_wp2
      go_roundw
      case rel =>
        refine ⟨k + 1, r', _, _, _, _, _, _, by go_num, by omega, hF5, fun i hi => ?_, HRc.out.snoc hF.arn.len HX.out, y5⟩
        by_cases hik : i = k
        · subst hik; rw [upd_same, upd_same, upd_same]; exact ⟨rfl, rfl, rfl⟩
        · rw [upd_other _ _ hik, upd_other _ _ hik, upd_other _ _ hik]; exact HP.out i (by omega)
      case measure => simp [intOf] <;> omega
    · obtain rfl : n = k := by omega
      clear hlt hk
      have hRc' := hide hRc
      have hP' := hide hP
      clear hRc hP
      obtain ⟨j, hj⟩ : ∃ j : Nat, who % (n : Int) = (j : Int) := ⟨(who % (n : Int)).toNat, by have := Int.emod_nonneg who (show (n : Int) ≠ 0 by omega); omega⟩
      have hjN : j < n := by have := Int.emod_lt_of_pos who (show (0 : Int) < (n : Int) by omega); omega
      obtain ⟨acc, hsj⟩ := hF.wrd j hjN
      have hPj := hP'.out j hjN
      rw [hPj.2.2] at hsj
      have ij : I64 (j : Int) := by unfold I64; omega
      go_wp2_with fail
      (with_reducible refine (wait_on t a m n _ (j : Int) (D j) (S j) (P j) (W j) acc _ hF.tab hF.map ij (famMap_at hjN) (hF.wds j hjN) hsj (hF.ds j j hjN hjN)).mono ?_)
      rintro e w5 ⟨rfl, hs5, hd5, hm5⟩
      have hF5 := hF.touch hjN hm5 hd5 hs5
      have hb5 := hF.bs j hjN
      have y5 : Mod nowhere w w5 := hmr.call hm5 (by rintro i (rfl | rfl) <;> (right; omega))
      have hPl : Plain n j 0 (upd P j (P j)) (upd W j 1) (upd St j 1) ∧ upd St j 1 j = 1 := by
        refine ⟨⟨fun i hi hij => ?_, ?_, ?_⟩, upd_same _ _ _⟩
        · rw [upd_other _ _ hij, upd_other _ _ hij, upd_other _ _ hij]; exact hP'.out i hi
        · rw [upd_same]; omega
        · rw [upd_same]
      obtain ⟨P5, hP5⟩ : ∃ P5, P5 = upd P j (P j) := ⟨_, rfl⟩
      obtain ⟨W5, hW5⟩ : ∃ W5, W5 = upd W j 1 := ⟨_, rfl⟩
      obtain ⟨St5, hSt5⟩ : ∃ St5, St5 = upd St j 1 := ⟨_, rfl⟩
      rw [← hP5, ← hW5, ← hSt5] at hF5 hPl
      clear hP5 hW5 hSt5 hF hmr hs5 hd5 hm5 hsj hPj
      have hra : 0 ≤ raises % 9 ∧ raises % 9 < 9 := by omega
      go_wp2_with fail
      go_loopw [15] (fun s15 wx => ∃ (q : Nat) (P W St : Nat → Int), s15 = .int .i64 q ∧ (q : Int) ≤ raises % 9 ∧ Fam wx w.heap.size t a r m n cs D S P W St ∧ Plain n j q P W St ∧ St j = 1 ∧ Mod nowhere w wx)
        (fun s15 _ => (300 - (intOf s15)).toNat)
      case atStart => exact ⟨0, _, _, _, rfl, by omega, hF5, hPl.1, hPl.2, y5⟩
      case round =>
        obtain ⟨q, P, W, St, rfl, hq, hF, hPl, hSt, hmr⟩ := hrel
        obtain ⟨acc, hsj⟩ := hF.wrd j hjN
        have hbj := hF.bs j hjN
        rw [hSt] at hsj
        have HPl := hide hPl
        have HSt := hide hSt
        clear hPl hSt
        by_cases hqr : (q : Int) < raises % 9
        · go_wp2_with fail
          (with_reducible refine (raise_ok t a m n _ (j : Int) (D j) (S j) (P j) (W j) acc _ hF.tab hF.map ij (famMap_at hjN) (hF.wds j hjN) hsj (hF.ds j j hjN hjN)).mono ?_)
          rintro e w6 ⟨rfl, hs6, hd6, hm6⟩
          have hF6 := hF.touch hjN hm6 hd6 hs6
          have y6 : Mod nowhere w w6 := hmr.call hm6 (by rintro i (rfl | rfl) <;> (right; omega))
          go_wp2
          go_roundw
          case rel =>
            refine ⟨q + 1, _, _, _, by go_num, by omega, hF6, ⟨fun i hi hij => ?_, ?_, ?_⟩, upd_same _ _ _, y6⟩
            · rw [upd_other _ _ hij, upd_other _ _ hij, upd_other _ _ hij]; exact HPl.out.1 i hi hij
            · rw [upd_same, HPl.out.2.1]; unfold wrap64; omega
            · rw [upd_same]; exact HPl.out.2.2
          case measure => simp [intOf] <;> omega
        · have hqe : (q : Int) = raises % 9 := by omega
          have hPl2 : Plain n j (raises % 9) P W St := hqe ▸ HPl.out
          have hds := hF.ds j j hjN hjN
          clear hqe
          by_cases hto : to = 2 ∨ to = 3
          · go_wp2_with fail
            (with_reducible refine (turn_yes t a m n _ (j : Int) to (D j) (S j) (P j) (W j) acc _ hF.tab hF.map ij (famMap_at hjN) (hF.wds j hjN) hsj hto).mono ?_)
            rintro e w6 ⟨rfl, hs6, hm6⟩
            have hF6 := hF.touch hjN (hm6.mono (T := two (S j) (D j)) fun _ h => .inl h) (Blk.keep (hF.wds j hjN) hm6 hds) hs6
            have y6 : Mod nowhere w w6 := hmr.call hm6 (by rintro i rfl; right; omega)
            have hPl6 : Plain n j (raises % 9) (upd P j (P j)) (upd W j (W j)) (upd St j to) := by
              refine ⟨fun i hi hij => ?_, ?_, ?_⟩
              · rw [upd_other _ _ hij, upd_other _ _ hij, upd_other _ _ hij]; exact hPl2.1 i hi hij
              · rw [upd_same]; exact hPl2.2.1
              · rw [upd_same]; exact hPl2.2.2
            clear hF hmr hsj hPl2 HPl HSt hs6 hm6
            obtain ⟨wo, hwo⟩ : ∃ wo : World, wo = w6 := ⟨_, rfl⟩
            subst hwo
            go_wp2_with fail
            go_loopw [16, 17, 18] (fun s16 _ _ wx => ∃ (i : Nat) (P W St : Nat → Int), s16 = .int .i64 i ∧ i ≤ n ∧ Fam wx w.heap.size t a r m n cs D S P W St ∧ Plain n j (raises % 9) P W St ∧ Mod nowhere w wx)
              (fun s16 _ _ _ => (300 - (intOf s16)).toNat)
            case atStart => exact ⟨0, _, _, _, rfl, Nat.zero_le _, hF6, hPl6, y6⟩
            case round =>
              obtain ⟨i, P, W, St, rfl, hi, hF, hPl, hmr⟩ := hrel
              by_cases hin : i < n
              · obtain ⟨b, o, rfl, hbl, hcell⟩ := HR.out.form (by omega) (by omega)
                have hx' : l[i]? = some (l[i]'(by have := HL.out; omega)) := List.getElem?_eq_getElem (by have := HL.out; omega)
                generalize l[i]'(by have := HL.out; omega) = x at hx'
                have hcd := (hmr.cell (o + i) hbl (fun x => x)).trans (hcell i (.int .u8 x) (by rw [List.getElem?_map, hx']; rfl))
                have hbr : b < wr.heap.size := by have := hmr.size; omega
                obtain ⟨q0, q1, q2, q3, q4, q5, q6, q7, q8⟩ := hRc'.out i x hin hx'
                have hxw : 0 ≤ x ∧ x ≤ 255 := HW.out x (List.mem_of_getElem? hx')
                have hww : IntKind.i64.wrap x = x := IntWalk.i64_in _ (by omega)
                have iw1 : IntKind.i64.wrap ((i : Int) + 1) = (i : Int) + 1 := IntWalk.i64_in _ (by omega)
                have iw2 : IntKind.i64.wrap ((i : Int) + 2) = (i : Int) + 2 := IntWalk.i64_in _ (by omega)
                have Q := hide (And.intro q0 (And.intro q1 (And.intro q2 (And.intro q3 (And.intro q4 (And.intro q5 (And.intro q6 (And.intro q7 q8))))))))
                have HPl := hide hPl
                have ib1 : (0 : Int) ≤ (i : Int) := by omega
                have ib2 : (i : Int) < (n : Int) := by omega
                clear hx' hcell q0 q1 q2 q3 q4 q5 q6 q7 q8 hPl
                go_wp2_with fail
                (with_reducible refine (rec_calls 3 0 0 0 0 i ((i : Int) + 1) ((i : Int) + 2) x t a r m n n 64 cs _ i (D i) (S i) (P i) (W i) _ hF.tab hF.map (famMap_at hin) (hF.wds i hin) hF.arn hin (by omega) Q.out.1 Q.out.2.1 Q.out.2.2.1 Q.out.2.2.2.1 Q.out.2.2.2.2.1 Q.out.2.2.2.2.2.1 Q.out.2.2.2.2.2.2.1 Q.out.2.2.2.2.2.2.2.1 Q.out.2.2.2.2.2.2.2.2).mono ?_)
                rintro e w7 ⟨rfl, hm7⟩
                have hF7 := hF.keep0 hm7
                have hz7 := hm7.size
                have hcd7 := (hm7.cell (o + i) (b := b) (by omega) (fun x => x)).trans hcd
                have hb7 : b < w7.heap.size := by omega
                have y7 : Mod nowhere w w7 := hmr.call0 hm7
                clear hcd hF
                go_wp2_with fail
                go_region_held3 (fun w' => w'.cell? ⟨w7.heap.size, 0, none⟩ = some (.int .i64 3) ∧ w'.cell? ⟨w7.heap.size, 1, none⟩ = some (.int .i64 0) ∧ w'.cell? ⟨w7.heap.size, 2, none⟩ = some (.int .i64 0) ∧ w'.cell? ⟨w7.heap.size, 3, none⟩ = some (.int .i64 0) ∧ w'.cell? ⟨w7.heap.size, 4, none⟩ = some (.int .i64 0) ∧ w'.cell? ⟨w7.heap.size, 5, none⟩ = some (.int .i64 i) ∧ w'.cell? ⟨w7.heap.size, 6, none⟩ = some (.int .i64 ((i : Int) + 1)) ∧ w'.cell? ⟨w7.heap.size, 7, none⟩ = some (.int .i64 ((i : Int) + 2)) ∧ w'.cell? ⟨w7.heap.size, 8, none⟩ = some (.int .i64 x) ∧ w'.cell? ⟨b, o + i, none⟩ = some (.int .u8 x) ∧ Mod nowhere w w') ((repeat' apply And.intro) <;> first | (simp [*]; done) | (go_simp; done) | exact (by repeat (first | with_reducible exact Mod.refl _ _ | with_reducible assumption | with_reducible refine Mod.alloc ?_ _ | with_reducible refine Mod.drew ?_ | with_reducible refine Mod.drewN ?_ _ | with_reducible refine Mod.setCell ?_ (by first | exact .inl rfl | (left; (try unfold from_); show _ ≤ _; first | omega | (simp; done) | (simp; omega)) | (right; first | omega | (simp; done) | (simp; omega))) _ | with_reducible refine Mod.call0 ?_ (by with_reducible assumption) | with_reducible refine Mod.call ?_ (by with_reducible assumption) (by first | (rintro _ rfl; first | exact .inl rfl | (right; (first | omega | (simp; done) | (simp; omega)))) | (rintro _ (rfl | rfl) <;> (right; (first | omega | (simp; done) | (simp; omega)))))))) (fail)
                by_cases hij : i = j
                · have hij' : j = i := hij.symm
                  subst hij'
                  have hn1 : ((j : Int) != (j : Int)) = false := by simp
                  go_wp2
                  go_roundw
                  case rel => exact ⟨j + 1, P, W, St, by go_num, by omega, (hF7.keep0 ((Mod.refl _ _).alloc _)).keep0 (Mod.drew (Mod.refl _ _)), HPl.out, (by repeat (first | with_reducible exact Mod.refl _ _ | with_reducible assumption | with_reducible refine Mod.alloc ?_ _ | with_reducible refine Mod.drew ?_ | with_reducible refine Mod.drewN ?_ _ | with_reducible refine Mod.setCell ?_ (by first | exact .inl rfl | (left; (try unfold from_); show _ ≤ _; first | omega | (simp; done) | (simp; omega)) | (right; first | omega | (simp; done) | (simp; omega))) _ | with_reducible refine Mod.call0 ?_ (by with_reducible assumption) | with_reducible refine Mod.call ?_ (by with_reducible assumption) (by first | (rintro _ rfl; first | exact .inl rfl | (right; (first | omega | (simp; done) | (simp; omega)))) | (rintro _ (rfl | rfl) <;> (right; (first | omega | (simp; done) | (simp; omega)))))))⟩
                  case measure => simp [intOf] <;> omega
                · have hn1 : ((i : Int) != (j : Int)) = true := by simp; omega
                  obtain ⟨p1, p2, p3⟩ := HPl.out.1 i hin hij
                  have hF7' := hF7.keep0 (Mod.drew (Mod.alloc (Mod.refl _ w7) (.cells #[.int .i64 3, .int .i64 0, .int .i64 0, .int .i64 0, .int .i64 0, .int .i64 i, .int .i64 ((i : Int) + 1), .int .i64 ((i : Int) + 2), .int .i64 x] 40)))
                  obtain ⟨acc9, hsi⟩ := hF7'.wrd i hin
                  have hdi := hF7'.wds i hin
                  have hbi := hF7'.bs i hin
                  have hdsi := hF7'.ds i i hin hin
                  rw [p3] at hsi
                  have HP1 := hide p1
                  have HP2 := hide p2
                  have HP3 := hide p3
                  have ii : I64 (i : Int) := by unfold I64; omega
                  clear p1 p2 p3
                  go_wp2_with fail
                  (with_reducible refine (status_calls t a m n _ (i : Int) (D i) (S i) (P i) (W i) 1 acc9 _ hF7'.tab hF7'.map ii (famMap_at hin) hdi hsi).mono ?_)
                  rintro e w8 ⟨rfl, hs8, hm8⟩
                  have hd8 := Blk.keep hdi hm8 hdsi
                  have hF8 := hF7'.touch hin (hm8.mono (T := two (S i) (D i)) fun _ h => .inl h) hd8 hs8
                  have y8 : Mod nowhere w w8 := ((y7.alloc _).drew).call hm8 (by rintro i rfl; right; omega)
                  rw [HP1.out, HP2.out] at hd8
                  go_wp2_with fail
                  (with_reducible refine (priority_calls t a m n _ (i : Int) (D i) (S i) (i : Int) 0 _ hF8.tab hF8.map ii (famMap_at hin) hd8).mono ?_)
                  rintro e w9 ⟨rfl, hm9⟩
                  have hF9 := hF8.keep0 hm9
                  have hd9 := Blk.keep0 hd8 hm9
                  go_wp2_with fail
                  (with_reducible refine (waiting_calls t a m n _ (i : Int) (D i) (S i) (i : Int) 0 _ hF9.tab hF9.map ii (famMap_at hin) hd9).mono ?_)
                  rintro e w10 ⟨rfl, hm10⟩
                  have hF10 := hF9.keep0 hm10
                  have y10 : Mod nowhere w w10 := (y8.call0 hm9).call0 hm10
                  go_wp2
                  go_roundw
                  case rel =>
                    refine ⟨i + 1, _, _, _, by go_num, by omega, hF10, ⟨fun i' hi' hij' => ?_, ?_, ?_⟩, y10⟩
                    · by_cases hii : i' = i
                      · subst hii; rw [upd_same, upd_same, upd_same]; exact ⟨HP1.out, HP2.out, rfl⟩
                      · rw [upd_other _ _ hii, upd_other _ _ hii, upd_other _ _ hii]; exact HPl.out.1 i' hi' hij'
                    · rw [upd_other _ _ (fun e => hij e.symm)]; exact HPl.out.2.1
                    · rw [upd_other _ _ (fun e => hij e.symm)]; exact HPl.out.2.2
                  case measure => simp [intOf] <;> omega
              · have HPl := hide hPl
                have hdj := hF.wds j hjN
                clear hPl
                rw [HPl.out.2.1, HPl.out.2.2] at hdj
                go_wp2_with fail
                (with_reducible refine (priority_calls t a m n _ (j : Int) (D j) (S j) ((j : Int) + raises % 9) 1 _ hF.tab hF.map ij (famMap_at hjN) hdj).mono ?_)
                rintro e w9 ⟨rfl, hm9⟩
                have hF9 := hF.keep0 hm9
                have hd9 := Blk.keep0 hdj hm9
                go_wp2_with fail
                (with_reducible refine (waiting_calls t a m n _ (j : Int) (D j) (S j) ((j : Int) + raises % 9) 1 _ hF9.tab hF9.map ij (famMap_at hjN) hd9).mono ?_)
                rintro e w10 ⟨rfl, hm10⟩
                go_wp2
                go_ret
                exact ⟨rfl, (hmr.call0 hm9).call0 hm10⟩
          · have hto' : ¬ to = 2 ∧ ¬ to = 3 := by omega
            clear hto
            go_wp2_with fail
            (with_reducible refine (turn_bad t (j : Int) to a m _ hF.tab hto').mono ?_)
            rintro e w6 ⟨rfl, hm6⟩
            have hF6 := hF.keep0 hm6
            have y6 : Mod nowhere w w6 := hmr.call0 hm6
            have hPl6 := hPl2
            clear hF hmr hsj HPl HSt hm6
            obtain ⟨wo, hwo⟩ : ∃ wo : World, wo = w6 := ⟨_, rfl⟩
            subst hwo
            go_wp2_with fail
            go_loopw [16, 17, 18] (fun s16 _ _ wx => ∃ (i : Nat) (P W St : Nat → Int), s16 = .int .i64 i ∧ i ≤ n ∧ Fam wx w.heap.size t a r m n cs D S P W St ∧ Plain n j (raises % 9) P W St ∧ Mod nowhere w wx)
              (fun s16 _ _ _ => (300 - (intOf s16)).toNat)
            case atStart => exact ⟨0, _, _, _, rfl, Nat.zero_le _, hF6, hPl6, y6⟩
            case round =>
              obtain ⟨i, P, W, St, rfl, hi, hF, hPl, hmr⟩ := hrel
              by_cases hin : i < n
              · obtain ⟨b, o, rfl, hbl, hcell⟩ := HR.out.form (by omega) (by omega)
                have hx' : l[i]? = some (l[i]'(by have := HL.out; omega)) := List.getElem?_eq_getElem (by have := HL.out; omega)
                generalize l[i]'(by have := HL.out; omega) = x at hx'
                have hcd := (hmr.cell (o + i) hbl (fun x => x)).trans (hcell i (.int .u8 x) (by rw [List.getElem?_map, hx']; rfl))
                have hbr : b < wr.heap.size := by have := hmr.size; omega
                obtain ⟨q0, q1, q2, q3, q4, q5, q6, q7, q8⟩ := hRc'.out i x hin hx'
                have hxw : 0 ≤ x ∧ x ≤ 255 := HW.out x (List.mem_of_getElem? hx')
                have hww : IntKind.i64.wrap x = x := IntWalk.i64_in _ (by omega)
                have iw1 : IntKind.i64.wrap ((i : Int) + 1) = (i : Int) + 1 := IntWalk.i64_in _ (by omega)
                have iw2 : IntKind.i64.wrap ((i : Int) + 2) = (i : Int) + 2 := IntWalk.i64_in _ (by omega)
                have Q := hide (And.intro q0 (And.intro q1 (And.intro q2 (And.intro q3 (And.intro q4 (And.intro q5 (And.intro q6 (And.intro q7 q8))))))))
                have HPl := hide hPl
                have ib1 : (0 : Int) ≤ (i : Int) := by omega
                have ib2 : (i : Int) < (n : Int) := by omega
                clear hx' hcell q0 q1 q2 q3 q4 q5 q6 q7 q8 hPl
                go_wp2_with fail
                (with_reducible refine (rec_calls 3 0 0 0 0 i ((i : Int) + 1) ((i : Int) + 2) x t a r m n n 64 cs _ i (D i) (S i) (P i) (W i) _ hF.tab hF.map (famMap_at hin) (hF.wds i hin) hF.arn hin (by omega) Q.out.1 Q.out.2.1 Q.out.2.2.1 Q.out.2.2.2.1 Q.out.2.2.2.2.1 Q.out.2.2.2.2.2.1 Q.out.2.2.2.2.2.2.1 Q.out.2.2.2.2.2.2.2.1 Q.out.2.2.2.2.2.2.2.2).mono ?_)
                rintro e w7 ⟨rfl, hm7⟩
                have hF7 := hF.keep0 hm7
                have hz7 := hm7.size
                have hcd7 := (hm7.cell (o + i) (b := b) (by omega) (fun x => x)).trans hcd
                have hb7 : b < w7.heap.size := by omega
                have y7 : Mod nowhere w w7 := hmr.call0 hm7
                clear hcd hF
                go_wp2_with fail
                go_region_held3 (fun w' => w'.cell? ⟨w7.heap.size, 0, none⟩ = some (.int .i64 3) ∧ w'.cell? ⟨w7.heap.size, 1, none⟩ = some (.int .i64 0) ∧ w'.cell? ⟨w7.heap.size, 2, none⟩ = some (.int .i64 0) ∧ w'.cell? ⟨w7.heap.size, 3, none⟩ = some (.int .i64 0) ∧ w'.cell? ⟨w7.heap.size, 4, none⟩ = some (.int .i64 0) ∧ w'.cell? ⟨w7.heap.size, 5, none⟩ = some (.int .i64 i) ∧ w'.cell? ⟨w7.heap.size, 6, none⟩ = some (.int .i64 ((i : Int) + 1)) ∧ w'.cell? ⟨w7.heap.size, 7, none⟩ = some (.int .i64 ((i : Int) + 2)) ∧ w'.cell? ⟨w7.heap.size, 8, none⟩ = some (.int .i64 x) ∧ w'.cell? ⟨b, o + i, none⟩ = some (.int .u8 x) ∧ Mod nowhere w w') ((repeat' apply And.intro) <;> first | (simp [*]; done) | (go_simp; done) | exact (by repeat (first | with_reducible exact Mod.refl _ _ | with_reducible assumption | with_reducible refine Mod.alloc ?_ _ | with_reducible refine Mod.drew ?_ | with_reducible refine Mod.drewN ?_ _ | with_reducible refine Mod.setCell ?_ (by first | exact .inl rfl | (left; (try unfold from_); show _ ≤ _; first | omega | (simp; done) | (simp; omega)) | (right; first | omega | (simp; done) | (simp; omega))) _ | with_reducible refine Mod.call0 ?_ (by with_reducible assumption) | with_reducible refine Mod.call ?_ (by with_reducible assumption) (by first | (rintro _ rfl; first | exact .inl rfl | (right; (first | omega | (simp; done) | (simp; omega)))) | (rintro _ (rfl | rfl) <;> (right; (first | omega | (simp; done) | (simp; omega)))))))) (fail)
                by_cases hij : i = j
                · have hij' : j = i := hij.symm
                  subst hij'
                  have hn1 : ((j : Int) != (j : Int)) = false := by simp
                  go_wp2
                  go_roundw
                  case rel => exact ⟨j + 1, P, W, St, by go_num, by omega, (hF7.keep0 ((Mod.refl _ _).alloc _)).keep0 (Mod.drew (Mod.refl _ _)), HPl.out, (by repeat (first | with_reducible exact Mod.refl _ _ | with_reducible assumption | with_reducible refine Mod.alloc ?_ _ | with_reducible refine Mod.drew ?_ | with_reducible refine Mod.drewN ?_ _ | with_reducible refine Mod.setCell ?_ (by first | exact .inl rfl | (left; (try unfold from_); show _ ≤ _; first | omega | (simp; done) | (simp; omega)) | (right; first | omega | (simp; done) | (simp; omega))) _ | with_reducible refine Mod.call0 ?_ (by with_reducible assumption) | with_reducible refine Mod.call ?_ (by with_reducible assumption) (by first | (rintro _ rfl; first | exact .inl rfl | (right; (first | omega | (simp; done) | (simp; omega)))) | (rintro _ (rfl | rfl) <;> (right; (first | omega | (simp; done) | (simp; omega)))))))⟩
                  case measure => simp [intOf] <;> omega
                · have hn1 : ((i : Int) != (j : Int)) = true := by simp; omega
                  obtain ⟨p1, p2, p3⟩ := HPl.out.1 i hin hij
                  have hF7' := hF7.keep0 (Mod.drew (Mod.alloc (Mod.refl _ w7) (.cells #[.int .i64 3, .int .i64 0, .int .i64 0, .int .i64 0, .int .i64 0, .int .i64 i, .int .i64 ((i : Int) + 1), .int .i64 ((i : Int) + 2), .int .i64 x] 40)))
                  obtain ⟨acc9, hsi⟩ := hF7'.wrd i hin
                  have hdi := hF7'.wds i hin
                  have hbi := hF7'.bs i hin
                  have hdsi := hF7'.ds i i hin hin
                  rw [p3] at hsi
                  have HP1 := hide p1
                  have HP2 := hide p2
                  have HP3 := hide p3
                  have ii : I64 (i : Int) := by unfold I64; omega
                  clear p1 p2 p3
                  go_wp2_with fail
                  (with_reducible refine (status_calls t a m n _ (i : Int) (D i) (S i) (P i) (W i) 1 acc9 _ hF7'.tab hF7'.map ii (famMap_at hin) hdi hsi).mono ?_)
                  rintro e w8 ⟨rfl, hs8, hm8⟩
                  have hd8 := Blk.keep hdi hm8 hdsi
                  have hF8 := hF7'.touch hin (hm8.mono (T := two (S i) (D i)) fun _ h => .inl h) hd8 hs8
                  have y8 : Mod nowhere w w8 := ((y7.alloc _).drew).call hm8 (by rintro i rfl; right; omega)
                  rw [HP1.out, HP2.out] at hd8
                  go_wp2_with fail
                  (with_reducible refine (priority_calls t a m n _ (i : Int) (D i) (S i) (i : Int) 0 _ hF8.tab hF8.map ii (famMap_at hin) hd8).mono ?_)
                  rintro e w9 ⟨rfl, hm9⟩
                  have hF9 := hF8.keep0 hm9
                  have hd9 := Blk.keep0 hd8 hm9
                  go_wp2_with fail
                  (with_reducible refine (waiting_calls t a m n _ (i : Int) (D i) (S i) (i : Int) 0 _ hF9.tab hF9.map ii (famMap_at hin) hd9).mono ?_)
                  rintro e w10 ⟨rfl, hm10⟩
                  have hF10 := hF9.keep0 hm10
                  have y10 : Mod nowhere w w10 := (y8.call0 hm9).call0 hm10
                  go_wp2
                  go_roundw
                  case rel =>
                    refine ⟨i + 1, _, _, _, by go_num, by omega, hF10, ⟨fun i' hi' hij' => ?_, ?_, ?_⟩, y10⟩
                    · by_cases hii : i' = i
                      · subst hii; rw [upd_same, upd_same, upd_same]; exact ⟨HP1.out, HP2.out, rfl⟩
                      · rw [upd_other _ _ hii, upd_other _ _ hii, upd_other _ _ hii]; exact HPl.out.1 i' hi' hij'
                    · rw [upd_other _ _ (fun e => hij e.symm)]; exact HPl.out.2.1
                    · rw [upd_other _ _ (fun e => hij e.symm)]; exact HPl.out.2.2
                  case measure => simp [intOf] <;> omega
              · have HPl := hide hPl
                have hdj := hF.wds j hjN
                clear hPl
                rw [HPl.out.2.1, HPl.out.2.2] at hdj
                go_wp2_with fail
                (with_reducible refine (priority_calls t a m n _ (j : Int) (D j) (S j) ((j : Int) + raises % 9) 1 _ hF.tab hF.map ij (famMap_at hjN) hdj).mono ?_)
                rintro e w9 ⟨rfl, hm9⟩
                have hF9 := hF.keep0 hm9
                have hd9 := Blk.keep0 hdj hm9
                go_wp2_with fail
                (with_reducible refine (waiting_calls t a m n _ (j : Int) (D j) (S j) ((j : Int) + raises % 9) 1 _ hF9.tab hF9.map ij (famMap_at hjN) hd9).mono ?_)
                rintro e w10 ⟨rfl, hm10⟩
                go_wp2
                go_ret
                exact ⟨rfl, (hmr.call0 hm9).call0 hm10⟩
end Go.Proofs.Ytelammmgcfmlbaa
