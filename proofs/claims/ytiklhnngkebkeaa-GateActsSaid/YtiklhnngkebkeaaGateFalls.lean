/- Of seniors that come none is elder than one that comes later: the law GateFalls, walked. -/
import Derived.Test.YtiklhnngkebkeaaGateN
import Derived.Test.YtiklhnngkebkeaaB2
import Derived.LoopTactic
import Derived.Deep.DeepCutAuto
namespace Go.Proofs.Ytiklhnngkebkeaa
open Go.RowKit

theorem IsGate.far {w : World} {g gw gp n : Nat} {c : Int} {ps : List Int} (h : IsGate w g gw gp n c ps) {p : Addr} {u : Value} (h1 : g ≠ p.block) (h2 : gw ≠ p.block) (h3 : gp ≠ p.block) : IsGate (w.setCell p u) g gw gp n c ps :=
  h.keep (S := fun b => b = p.block) (Mod.setCell (S := fun b => b = p.block) (Mod.refl _ _) (.inl rfl) u) h1 h2 h3
theorem rep6 {t : Nat} (h : t < 6) : (List.replicate 6 (0 : Int))[t]? = some 0 := by
  rw [List.getElem?_replicate, if_pos h]

set_option maxRecDepth 100000 in
set_option maxHeartbeats 8000000 in
theorem law_gateFalls (A : Option Addr) (n c : Nat) (l : List Int) (w : World) (hl : l.length = n) (hr : Reads w w.heap.size 1 A n (l.map (Value.int .u8))) (hw8 : ∀ x ∈ l, 0 ≤ x ∧ x ≤ 255) :
    Calls Try.prog 4 #[.slice A n c] w
     fun en w' => en = .returned (.bool true) ∧ Mod nowhere w w' := by
  by_cases g0 : 100 < n
  · go_enter Try.func4, Try.ntmps4
    go_wp2_with fail
    (with_reducible refine (alive10_calls _).mono ?_)
    rintro e w1 ⟨rfl, hbw1⟩
    have hzw1 := hbw1.size
    (try simp at hzw1)
    skip
    skip
    go_wp2
    go_ret
    exact ⟨rfl, (by repeat (first | with_reducible exact Mod.refl _ _ | with_reducible assumption | with_reducible refine Mod.alloc ?_ _ | with_reducible refine Mod.drew ?_ | with_reducible refine Mod.drewN ?_ _ | with_reducible refine Mod.setCell ?_ (by first | exact .inl rfl | (left; (try unfold from_); show _ ≤ _; first | omega | (simp; done) | (simp; omega)) | (right; first | omega | (simp; done) | (simp; omega))) _ | with_reducible refine Mod.call0 ?_ (by with_reducible assumption) | with_reducible refine Mod.call ?_ (by with_reducible assumption) (by first | (rintro _ rfl; first | exact .inl rfl | (right; (first | omega | (simp; done) | (simp; omega)))) | (rintro _ (rfl | rfl) <;> (right; (first | omega | (simp; done) | (simp; omega)))))))⟩
  have HR := hide hr
  have HL := hide hl
  have HW := hide hw8
  have i0 : I64 0 := by unfold I64; omega
  clear hr hl hw8
  go_enter Try.func4, Try.ntmps4
  go_wp2_with fail
  (with_reducible refine (alive10_calls _).mono ?_)
  rintro e w1 ⟨rfl, hbw1⟩
  have hzw1 := hbw1.size
  (try simp at hzw1)
  skip
  skip
  go_wp2_with fail
  (with_reducible refine (gnew_6 _).mono ?_)
  rintro e w2 ⟨g, gw, gp, rfl, hg, b1, b2, b3, hm2⟩
  have hz2 := hm2.size
  have hw2 : Mod nowhere w w2 := (by repeat (first | with_reducible exact Mod.refl _ _ | with_reducible assumption | with_reducible refine Mod.alloc ?_ _ | with_reducible refine Mod.drew ?_ | with_reducible refine Mod.drewN ?_ _ | with_reducible refine Mod.setCell ?_ (by first | exact .inl rfl | (left; (try unfold from_); show _ ≤ _; first | omega | (simp; done) | (simp; omega)) | (right; first | omega | (simp; done) | (simp; omega))) _ | with_reducible refine Mod.call0 ?_ (by with_reducible assumption) | with_reducible refine Mod.call ?_ (by with_reducible assumption) (by first | (rintro _ rfl; first | exact .inl rfl | (right; (first | omega | (simp; done) | (simp; omega)))) | (rintro _ (rfl | rfl) <;> (right; (first | omega | (simp; done) | (simp; omega)))))))
  go_wp2_with fail
  go_loopw [5, 6, 7, 8, 9, 10, 11, 12] (fun s5 s6 _ _ _ _ _ _ wx => ∃ (k : Nat) (least c : Int), s5 = .int .i64 least ∧ s6 = .int .i64 k ∧ k ≤ n ∧ IsGate wx g gw gp 6 c (List.replicate 6 0) ∧ ((least = 1000 ∧ c = 0) ∨ ∃ t : Nat, t < 6 ∧ 0 ≤ least ∧ least ≤ 255 ∧ c = least * 8 + t + 1) ∧ Mod nowhere w wx)
    (fun _ s6 _ _ _ _ _ _ _ => (300 - (intOf s6)).toNat)
  case atStart => exact ⟨0, 1000, 0, rfl, rfl, Nat.zero_le _, hg, .inl ⟨rfl, rfl⟩, hw2⟩
  case round =>
    obtain ⟨k, least, c', rfl, rfl, hk, hg, hst, hmr⟩ := hrel
    have l_g := hg.lt
    by_cases hlt : k < n
    · obtain ⟨b, o, rfl, hbl, hcell⟩ := HR.out.form (by omega) (by omega)
      have hm : l[k]'(by have := HL.out; omega) ∈ l := List.getElem_mem _
      have hd : (l.map (Value.int .u8))[k]? = some (.int .u8 (l[k]'(by have := HL.out; omega))) := by
        rw [List.getElem?_map, List.getElem?_eq_getElem (by have := HL.out; omega)]; rfl
      have hcd := (hmr.cell (o + k) hbl (fun x => x)).trans (hcell k _ hd)
      obtain ⟨hx0, hx1⟩ := HW.out _ hm
      generalize l[k]'(by have := HL.out; omega) = x at hcd hx0 hx1
      clear hd hcell hm
      obtain ⟨j, hj, hj6⟩ : ∃ j : Nat, (k : Int) % 6 = (j : Int) ∧ j < 6 := ⟨k % 6, by omega, Nat.mod_lt _ (by omega)⟩
      have HP := hide (rep6 hj6)
      rcases hst with ⟨rfl, rfl⟩ | ⟨t, ht, h0, h1, rfl⟩
      · have z1 : decide (x < 1000) = true := by simp; omega
        go_wp2_with fail
        (with_reducible refine (fresh_calls _).mono ?_)
        rintro e w3 ⟨rfl, hbw3⟩
        have hzw3 := hbw3.size
        (try simp at hzw3)
        skip
        skip
        go_wp2_with fail
        (with_reducible refine (see_none g gw gp 6 _ _ (by exact (by repeat (first | with_reducible assumption | with_reducible apply IsGate.drew | with_reducible apply IsGate.alloc | with_reducible apply IsGate.keep0 (hm := by with_reducible assumption) | with_reducible apply IsGate.far (h1 := by first | omega | (simp; omega)) (h2 := by first | omega | (simp; omega)) (h3 := by first | omega | (simp; omega)) | with_reducible apply IsGate.keep (hm := by with_reducible assumption) (h1 := by omega) (h2 := by omega) (h3 := by omega))))).mono ?_)
        rintro e w4 ⟨rfl, hkw4, hbw4⟩
        have hzw4 := hbw4.size
        (try simp at hzw4)
        skip
        skip
        go_wp2_with fail
        (with_reducible refine (what_claim _ _ _ _ _ _ _ _ _ _ _ _ (.inl rfl)).mono ?_)
        rintro e w5 ⟨rfl, hbw5⟩
        have hzw5 := hbw5.size
        (try simp at hzw5)
        skip
        skip
        go_wp2_with fail
        (with_reducible refine (see_none g gw gp 6 _ _ (by exact (by repeat (first | with_reducible assumption | with_reducible apply IsGate.drew | with_reducible apply IsGate.alloc | with_reducible apply IsGate.keep0 (hm := by with_reducible assumption) | with_reducible apply IsGate.far (h1 := by first | omega | (simp; omega)) (h2 := by first | omega | (simp; omega)) (h3 := by first | omega | (simp; omega)) | with_reducible apply IsGate.keep (hm := by with_reducible assumption) (h1 := by omega) (h2 := by omega) (h3 := by omega))))).mono ?_)
        rintro e w6 ⟨rfl, hkw6, hbw6⟩
        have hzw6 := hbw6.size
        (try simp at hzw6)
        skip
        skip
        go_wp2_with fail
        (with_reducible refine (gswap_none_yes 0 0 0 x j g gw gp 6 0 _ _ (by exact (by repeat (first | with_reducible assumption | with_reducible apply IsGate.drew | with_reducible apply IsGate.alloc | with_reducible apply IsGate.keep0 (hm := by with_reducible assumption) | with_reducible apply IsGate.far (h1 := by first | omega | (simp; omega)) (h2 := by first | omega | (simp; omega)) (h3 := by first | omega | (simp; omega)) | with_reducible apply IsGate.keep (hm := by with_reducible assumption) (h1 := by omega) (h2 := by omega) (h3 := by omega)))) (by omega) (by omega) (by omega) (by omega) (by omega) rfl).mono ?_)
        rintro e wS ⟨rfl, hkwS, hbwS⟩
        have hzwS := hbwS.size
        (try simp at hzwS)
        skip
        skip
        go_wp2_with fail
        (with_reducible refine (see_some g gw gp 6 x j 0 _ _ (by exact (by repeat (first | with_reducible assumption | with_reducible apply IsGate.drew | with_reducible apply IsGate.alloc | with_reducible apply IsGate.keep0 (hm := by with_reducible assumption) | with_reducible apply IsGate.far (h1 := by first | omega | (simp; omega)) (h2 := by first | omega | (simp; omega)) (h3 := by first | omega | (simp; omega)) | with_reducible apply IsGate.keep (hm := by with_reducible assumption) (h1 := by omega) (h2 := by omega) (h3 := by omega)))) (by omega) (by omega) (by omega) (by omega) HP.out).mono ?_)
        rintro e w7 ⟨rfl, hkw7, hbw7⟩
        have hzw7 := hbw7.size
        (try simp at hzw7)
        skip
        skip
        go_upto_region 21 with fail
        generalize hxb : w7.heap.size = xb
        have hxb2 : w7.heap.size ≤ xb := by omega
        go_cut [11, 12] (fun s11 _ wx => s11 = .int .i64 2 ∧ Blk wx xb 25 #[.bool true, .int .i64 x, .int .i64 j, .int .i64 0] ∧ IsGate wx g gw gp 6 (x * 8 + j + 1) (List.replicate 6 0) ∧ Mod nowhere w wx)
        case first =>
          subst hxb
          clear hxb2
          go_region_held3 (fun w' => w'.cell? ⟨w7.heap.size, 0, none⟩ = some (.bool true) ∧ w'.cell? ⟨w7.heap.size, 1, none⟩ = some (.int .i64 x) ∧ w'.cell? ⟨w7.heap.size, 2, none⟩ = some (.int .i64 j) ∧ w'.cell? ⟨w7.heap.size, 3, none⟩ = some (.int .i64 0) ∧ Mod nowhere w w') ((repeat' apply And.intro) <;> first | (simp [*]; done) | (go_simp; done) | exact (by repeat (first | with_reducible exact Mod.refl _ _ | with_reducible assumption | with_reducible refine Mod.alloc ?_ _ | with_reducible refine Mod.drew ?_ | with_reducible refine Mod.drewN ?_ _ | with_reducible refine Mod.setCell ?_ (by first | exact .inl rfl | (left; (try unfold from_); show _ ≤ _; first | omega | (simp; done) | (simp; omega)) | (right; first | omega | (simp; done) | (simp; omega))) _ | with_reducible refine Mod.call0 ?_ (by with_reducible assumption) | with_reducible refine Mod.call ?_ (by with_reducible assumption) (by first | (rintro _ rfl; first | exact .inl rfl | (right; (first | omega | (simp; done) | (simp; omega)))) | (rintro _ (rfl | rfl) <;> (right; (first | omega | (simp; done) | (simp; omega)))))))) (first | (go_at_call 14; (with_reducible refine (fresh_calls _).mono ?_); rintro e w8 ⟨rfl, hbw8⟩; have hzw8 := hbw8.size; (try simp at hzw8); (try (have ltw80 : w7.heap.size < w8.heap.size := (by omega); have lcw80 := fun o => hbw8.cell (b := w7.heap.size) o (by first | omega | (simp; done) | (simp; omega)) (id); have lfw80 := fun o => hbw8.frozen (b := w7.heap.size) o (by first | omega | (simp; done) | (simp; omega)) (id))); (try (have ltw81 : w7.heap.size + 1 < w8.heap.size := (by omega); have lcw81 := fun o => hbw8.cell (b := w7.heap.size + 1) o (by first | omega | (simp; done) | (simp; omega)) (id); have lfw81 := fun o => hbw8.frozen (b := w7.heap.size + 1) o (by first | omega | (simp; done) | (simp; omega)) (id))); skip) | (go_at_call 10; (with_reducible refine (what_own _ _ _ _ _ _ _ _ _ _ _ _ rfl).mono ?_); rintro e w9 ⟨rfl, hbw9⟩; have hzw9 := hbw9.size; (try simp at hzw9); (try (have ltw90 : w7.heap.size < w9.heap.size := (by omega); have lcw90 := fun o => hbw9.cell (b := w7.heap.size) o (by first | omega | (simp; done) | (simp; omega)) (id); have lfw90 := fun o => hbw9.frozen (b := w7.heap.size) o (by first | omega | (simp; done) | (simp; omega)) (id))); (try (have ltw91 : w7.heap.size + 1 < w9.heap.size := (by omega); have lcw91 := fun o => hbw9.cell (b := w7.heap.size + 1) o (by first | omega | (simp; done) | (simp; omega)) (id); have lfw91 := fun o => hbw9.frozen (b := w7.heap.size + 1) o (by first | omega | (simp; done) | (simp; omega)) (id))); (try (have ltw92 : w8.heap.size < w9.heap.size := (by omega); have lcw92 := fun o => hbw9.cell (b := w8.heap.size) o (by first | omega | (simp; done) | (simp; omega)) (id); have lfw92 := fun o => hbw9.frozen (b := w8.heap.size) o (by first | omega | (simp; done) | (simp; omega)) (id))); skip))
          all_goals
            go_wp2_with fail
            go_meet
          all_goals exact ⟨rfl, (by repeat (first | with_reducible assumption | with_reducible apply Blk.new | with_reducible exact Blk.newAt (by first | rfl | (simp; done) | (simp; omega)) | with_reducible apply Blk.alloc | with_reducible apply Blk.drew | with_reducible apply Blk.drewN | with_reducible apply Blk.keep0 (hm := by with_reducible assumption) | with_reducible apply Blk.keep (hm := by with_reducible assumption) (hg := by first | omega | exact not_two (by omega) (by omega)) | with_reducible apply Blk.far (hp := by first | omega | (simp; done) | (simp; omega)) | with_reducible apply Blk.set1 | rfl)), (by repeat (first | with_reducible assumption | with_reducible apply IsGate.drew | with_reducible apply IsGate.alloc | with_reducible apply IsGate.keep0 (hm := by with_reducible assumption) | with_reducible apply IsGate.far (h1 := by first | omega | (simp; omega)) (h2 := by first | omega | (simp; omega)) (h3 := by first | omega | (simp; omega)) | with_reducible apply IsGate.keep (hm := by with_reducible assumption) (h1 := by omega) (h2 := by omega) (h3 := by omega))), (by repeat (first | with_reducible exact Mod.refl _ _ | with_reducible assumption | with_reducible refine Mod.alloc ?_ _ | with_reducible refine Mod.drew ?_ | with_reducible refine Mod.drewN ?_ _ | with_reducible refine Mod.setCell ?_ (by first | exact .inl rfl | (left; (try unfold from_); show _ ≤ _; first | omega | (simp; done) | (simp; omega)) | (right; first | omega | (simp; done) | (simp; omega))) _ | with_reducible refine Mod.call0 ?_ (by with_reducible assumption) | with_reducible refine Mod.call ?_ (by with_reducible assumption) (by first | (rintro _ rfl; first | exact .inl rfl | (right; (first | omega | (simp; done) | (simp; omega)))) | (rintro _ (rfl | rfl) <;> (right; (first | omega | (simp; done) | (simp; omega)))))))⟩
        case rest =>
          clear hxb
          obtain ⟨rfl, hx9, hg9, hmc⟩ := hcut
          have c_hx9 := hx9.cell; have f_hx9 := hx9.frozen; have l_hx9 := hx9.lt
          go_wp2
          go_roundw
          case rel => exact ⟨k + 1, x, _, rfl, by go_num, by omega, hg9, .inr ⟨j, by omega, by omega, by omega, rfl⟩, (by repeat (first | with_reducible exact Mod.refl _ _ | with_reducible assumption | with_reducible refine Mod.alloc ?_ _ | with_reducible refine Mod.drew ?_ | with_reducible refine Mod.drewN ?_ _ | with_reducible refine Mod.setCell ?_ (by first | exact .inl rfl | (left; (try unfold from_); show _ ≤ _; first | omega | (simp; done) | (simp; omega)) | (right; first | omega | (simp; done) | (simp; omega))) _ | with_reducible refine Mod.call0 ?_ (by with_reducible assumption) | with_reducible refine Mod.call ?_ (by with_reducible assumption) (by first | (rintro _ rfl; first | exact .inl rfl | (right; (first | omega | (simp; done) | (simp; omega)))) | (rintro _ (rfl | rfl) <;> (right; (first | omega | (simp; done) | (simp; omega)))))))⟩
          case measure => simp [intOf] <;> omega
      · have HP6 := hide (rep6 ht)
        rcases Int.lt_trichotomy x least with hlt2 | rfl | hgt
        · have z1 : decide (x < least) = true := by simp; omega
          have z2 : decide (least < x) = false := by simp; omega
          go_wp2_with fail
          (with_reducible refine (fresh_calls _).mono ?_)
          rintro e w3 ⟨rfl, hbw3⟩
          have hzw3 := hbw3.size
          (try simp at hzw3)
          skip
          skip
          go_wp2_with fail
          (with_reducible refine (see_some g gw gp 6 least t 0 _ _ (by exact (by repeat (first | with_reducible assumption | with_reducible apply IsGate.drew | with_reducible apply IsGate.alloc | with_reducible apply IsGate.keep0 (hm := by with_reducible assumption) | with_reducible apply IsGate.far (h1 := by first | omega | (simp; omega)) (h2 := by first | omega | (simp; omega)) (h3 := by first | omega | (simp; omega)) | with_reducible apply IsGate.keep (hm := by with_reducible assumption) (h1 := by omega) (h2 := by omega) (h3 := by omega)))) (by omega) (by omega) (by omega) (by omega) HP6.out).mono ?_)
          rintro e w4 ⟨rfl, hkw4, hbw4⟩
          have hzw4 := hbw4.size
          (try simp at hzw4)
          skip
          skip
          go_wp2_with fail
          (with_reducible refine (what_claim _ _ _ _ _ _ _ _ _ _ _ _ (.inr hlt2)).mono ?_)
          rintro e w5 ⟨rfl, hbw5⟩
          have hzw5 := hbw5.size
          (try simp at hzw5)
          skip
          skip
          go_wp2_with fail
          (with_reducible refine (see_some g gw gp 6 least t 0 _ _ (by exact (by repeat (first | with_reducible assumption | with_reducible apply IsGate.drew | with_reducible apply IsGate.alloc | with_reducible apply IsGate.keep0 (hm := by with_reducible assumption) | with_reducible apply IsGate.far (h1 := by first | omega | (simp; omega)) (h2 := by first | omega | (simp; omega)) (h3 := by first | omega | (simp; omega)) | with_reducible apply IsGate.keep (hm := by with_reducible assumption) (h1 := by omega) (h2 := by omega) (h3 := by omega)))) (by omega) (by omega) (by omega) (by omega) HP6.out).mono ?_)
          rintro e w6 ⟨rfl, hkw6, hbw6⟩
          have hzw6 := hbw6.size
          (try simp at hzw6)
          skip
          skip
          go_wp2_with fail
          (with_reducible refine (gswap_some_yes least t 0 x j g gw gp 6 (least * 8 + t + 1) _ _ (by exact (by repeat (first | with_reducible assumption | with_reducible apply IsGate.drew | with_reducible apply IsGate.alloc | with_reducible apply IsGate.keep0 (hm := by with_reducible assumption) | with_reducible apply IsGate.far (h1 := by first | omega | (simp; omega)) (h2 := by first | omega | (simp; omega)) (h3 := by first | omega | (simp; omega)) | with_reducible apply IsGate.keep (hm := by with_reducible assumption) (h1 := by omega) (h2 := by omega) (h3 := by omega)))) (by omega) (by omega) (by omega) (by omega) (by omega) (by omega) (by omega) (by omega) (by omega) rfl).mono ?_)
          rintro e wS ⟨rfl, hkwS, hbwS⟩
          have hzwS := hbwS.size
          (try simp at hzwS)
          skip
          skip
          go_wp2_with fail
          (with_reducible refine (see_some g gw gp 6 x j 0 _ _ (by exact (by repeat (first | with_reducible assumption | with_reducible apply IsGate.drew | with_reducible apply IsGate.alloc | with_reducible apply IsGate.keep0 (hm := by with_reducible assumption) | with_reducible apply IsGate.far (h1 := by first | omega | (simp; omega)) (h2 := by first | omega | (simp; omega)) (h3 := by first | omega | (simp; omega)) | with_reducible apply IsGate.keep (hm := by with_reducible assumption) (h1 := by omega) (h2 := by omega) (h3 := by omega)))) (by omega) (by omega) (by omega) (by omega) HP.out).mono ?_)
          rintro e w7 ⟨rfl, hkw7, hbw7⟩
          have hzw7 := hbw7.size
          (try simp at hzw7)
          skip
          skip
          go_upto_region 21 with fail
          generalize hxb : w7.heap.size = xb
          have hxb2 : w7.heap.size ≤ xb := by omega
          go_cut [11, 12] (fun s11 _ wx => s11 = .int .i64 2 ∧ Blk wx xb 25 #[.bool true, .int .i64 x, .int .i64 j, .int .i64 0] ∧ IsGate wx g gw gp 6 (x * 8 + j + 1) (List.replicate 6 0) ∧ Mod nowhere w wx)
          case first =>
            subst hxb
            clear hxb2
            go_region_held3 (fun w' => w'.cell? ⟨w7.heap.size, 0, none⟩ = some (.bool true) ∧ w'.cell? ⟨w7.heap.size, 1, none⟩ = some (.int .i64 x) ∧ w'.cell? ⟨w7.heap.size, 2, none⟩ = some (.int .i64 j) ∧ w'.cell? ⟨w7.heap.size, 3, none⟩ = some (.int .i64 0) ∧ Mod nowhere w w') ((repeat' apply And.intro) <;> first | (simp [*]; done) | (go_simp; done) | exact (by repeat (first | with_reducible exact Mod.refl _ _ | with_reducible assumption | with_reducible refine Mod.alloc ?_ _ | with_reducible refine Mod.drew ?_ | with_reducible refine Mod.drewN ?_ _ | with_reducible refine Mod.setCell ?_ (by first | exact .inl rfl | (left; (try unfold from_); show _ ≤ _; first | omega | (simp; done) | (simp; omega)) | (right; first | omega | (simp; done) | (simp; omega))) _ | with_reducible refine Mod.call0 ?_ (by with_reducible assumption) | with_reducible refine Mod.call ?_ (by with_reducible assumption) (by first | (rintro _ rfl; first | exact .inl rfl | (right; (first | omega | (simp; done) | (simp; omega)))) | (rintro _ (rfl | rfl) <;> (right; (first | omega | (simp; done) | (simp; omega)))))))) (first | (go_at_call 14; (with_reducible refine (fresh_calls _).mono ?_); rintro e w8 ⟨rfl, hbw8⟩; have hzw8 := hbw8.size; (try simp at hzw8); (try (have ltw80 : w7.heap.size < w8.heap.size := (by omega); have lcw80 := fun o => hbw8.cell (b := w7.heap.size) o (by first | omega | (simp; done) | (simp; omega)) (id); have lfw80 := fun o => hbw8.frozen (b := w7.heap.size) o (by first | omega | (simp; done) | (simp; omega)) (id))); (try (have ltw81 : w7.heap.size + 1 < w8.heap.size := (by omega); have lcw81 := fun o => hbw8.cell (b := w7.heap.size + 1) o (by first | omega | (simp; done) | (simp; omega)) (id); have lfw81 := fun o => hbw8.frozen (b := w7.heap.size + 1) o (by first | omega | (simp; done) | (simp; omega)) (id))); skip) | (go_at_call 10; (with_reducible refine (what_own _ _ _ _ _ _ _ _ _ _ _ _ rfl).mono ?_); rintro e w9 ⟨rfl, hbw9⟩; have hzw9 := hbw9.size; (try simp at hzw9); (try (have ltw90 : w7.heap.size < w9.heap.size := (by omega); have lcw90 := fun o => hbw9.cell (b := w7.heap.size) o (by first | omega | (simp; done) | (simp; omega)) (id); have lfw90 := fun o => hbw9.frozen (b := w7.heap.size) o (by first | omega | (simp; done) | (simp; omega)) (id))); (try (have ltw91 : w7.heap.size + 1 < w9.heap.size := (by omega); have lcw91 := fun o => hbw9.cell (b := w7.heap.size + 1) o (by first | omega | (simp; done) | (simp; omega)) (id); have lfw91 := fun o => hbw9.frozen (b := w7.heap.size + 1) o (by first | omega | (simp; done) | (simp; omega)) (id))); (try (have ltw92 : w8.heap.size < w9.heap.size := (by omega); have lcw92 := fun o => hbw9.cell (b := w8.heap.size) o (by first | omega | (simp; done) | (simp; omega)) (id); have lfw92 := fun o => hbw9.frozen (b := w8.heap.size) o (by first | omega | (simp; done) | (simp; omega)) (id))); skip))
            all_goals
              go_wp2_with fail
              go_meet
            all_goals exact ⟨rfl, (by repeat (first | with_reducible assumption | with_reducible apply Blk.new | with_reducible exact Blk.newAt (by first | rfl | (simp; done) | (simp; omega)) | with_reducible apply Blk.alloc | with_reducible apply Blk.drew | with_reducible apply Blk.drewN | with_reducible apply Blk.keep0 (hm := by with_reducible assumption) | with_reducible apply Blk.keep (hm := by with_reducible assumption) (hg := by first | omega | exact not_two (by omega) (by omega)) | with_reducible apply Blk.far (hp := by first | omega | (simp; done) | (simp; omega)) | with_reducible apply Blk.set1 | rfl)), (by repeat (first | with_reducible assumption | with_reducible apply IsGate.drew | with_reducible apply IsGate.alloc | with_reducible apply IsGate.keep0 (hm := by with_reducible assumption) | with_reducible apply IsGate.far (h1 := by first | omega | (simp; omega)) (h2 := by first | omega | (simp; omega)) (h3 := by first | omega | (simp; omega)) | with_reducible apply IsGate.keep (hm := by with_reducible assumption) (h1 := by omega) (h2 := by omega) (h3 := by omega))), (by repeat (first | with_reducible exact Mod.refl _ _ | with_reducible assumption | with_reducible refine Mod.alloc ?_ _ | with_reducible refine Mod.drew ?_ | with_reducible refine Mod.drewN ?_ _ | with_reducible refine Mod.setCell ?_ (by first | exact .inl rfl | (left; (try unfold from_); show _ ≤ _; first | omega | (simp; done) | (simp; omega)) | (right; first | omega | (simp; done) | (simp; omega))) _ | with_reducible refine Mod.call0 ?_ (by with_reducible assumption) | with_reducible refine Mod.call ?_ (by with_reducible assumption) (by first | (rintro _ rfl; first | exact .inl rfl | (right; (first | omega | (simp; done) | (simp; omega)))) | (rintro _ (rfl | rfl) <;> (right; (first | omega | (simp; done) | (simp; omega)))))))⟩
          case rest =>
            clear hxb
            obtain ⟨rfl, hx9, hg9, hmc⟩ := hcut
            have c_hx9 := hx9.cell; have f_hx9 := hx9.frozen; have l_hx9 := hx9.lt
            go_wp2
            go_roundw
            case rel => exact ⟨k + 1, x, _, rfl, by go_num, by omega, hg9, .inr ⟨j, by omega, by omega, by omega, rfl⟩, (by repeat (first | with_reducible exact Mod.refl _ _ | with_reducible assumption | with_reducible refine Mod.alloc ?_ _ | with_reducible refine Mod.drew ?_ | with_reducible refine Mod.drewN ?_ _ | with_reducible refine Mod.setCell ?_ (by first | exact .inl rfl | (left; (try unfold from_); show _ ≤ _; first | omega | (simp; done) | (simp; omega)) | (right; first | omega | (simp; done) | (simp; omega))) _ | with_reducible refine Mod.call0 ?_ (by with_reducible assumption) | with_reducible refine Mod.call ?_ (by with_reducible assumption) (by first | (rintro _ rfl; first | exact .inl rfl | (right; (first | omega | (simp; done) | (simp; omega)))) | (rintro _ (rfl | rfl) <;> (right; (first | omega | (simp; done) | (simp; omega)))))))⟩
            case measure => simp [intOf] <;> omega
        · go_wp2_with fail
          (with_reducible refine (fresh_calls _).mono ?_)
          rintro e w3 ⟨rfl, hbw3⟩
          have hzw3 := hbw3.size
          (try simp at hzw3)
          skip
          skip
          go_wp2_with fail
          (with_reducible refine (see_some g gw gp 6 x t 0 _ _ (by exact (by repeat (first | with_reducible assumption | with_reducible apply IsGate.drew | with_reducible apply IsGate.alloc | with_reducible apply IsGate.keep0 (hm := by with_reducible assumption) | with_reducible apply IsGate.far (h1 := by first | omega | (simp; omega)) (h2 := by first | omega | (simp; omega)) (h3 := by first | omega | (simp; omega)) | with_reducible apply IsGate.keep (hm := by with_reducible assumption) (h1 := by omega) (h2 := by omega) (h3 := by omega)))) (by omega) (by omega) (by omega) (by omega) HP6.out).mono ?_)
          rintro e w4 ⟨rfl, hkw4, hbw4⟩
          have hzw4 := hbw4.size
          (try simp at hzw4)
          skip
          skip
          go_wp2_with fail
          (with_reducible refine (what_own _ _ _ _ _ _ _ _ _ _ _ _ rfl).mono ?_)
          rintro e w5 ⟨rfl, hbw5⟩
          have hzw5 := hbw5.size
          (try simp at hzw5)
          skip
          skip
          go_wp2_with fail
          (with_reducible refine (see_some g gw gp 6 x t 0 _ _ (by exact (by repeat (first | with_reducible assumption | with_reducible apply IsGate.drew | with_reducible apply IsGate.alloc | with_reducible apply IsGate.keep0 (hm := by with_reducible assumption) | with_reducible apply IsGate.far (h1 := by first | omega | (simp; omega)) (h2 := by first | omega | (simp; omega)) (h3 := by first | omega | (simp; omega)) | with_reducible apply IsGate.keep (hm := by with_reducible assumption) (h1 := by omega) (h2 := by omega) (h3 := by omega)))) (by omega) (by omega) (by omega) (by omega) HP6.out).mono ?_)
          rintro e w7 ⟨rfl, hkw7, hbw7⟩
          have hzw7 := hbw7.size
          (try simp at hzw7)
          skip
          skip
          go_upto_region 21 with fail
          generalize hxb : w7.heap.size = xb
          have hxb2 : w7.heap.size ≤ xb := by omega
          go_cut [11, 12] (fun s11 _ wx => s11 = .int .i64 2 ∧ Blk wx xb 25 #[.bool true, .int .i64 x, .int .i64 t, .int .i64 0] ∧ IsGate wx g gw gp 6 (x * 8 + t + 1) (List.replicate 6 0) ∧ Mod nowhere w wx)
          case first =>
            subst hxb
            clear hxb2
            go_region_held3 (fun w' => w'.cell? ⟨w7.heap.size, 0, none⟩ = some (.bool true) ∧ w'.cell? ⟨w7.heap.size, 1, none⟩ = some (.int .i64 x) ∧ w'.cell? ⟨w7.heap.size, 2, none⟩ = some (.int .i64 t) ∧ w'.cell? ⟨w7.heap.size, 3, none⟩ = some (.int .i64 0) ∧ Mod nowhere w w') ((repeat' apply And.intro) <;> first | (simp [*]; done) | (go_simp; done) | exact (by repeat (first | with_reducible exact Mod.refl _ _ | with_reducible assumption | with_reducible refine Mod.alloc ?_ _ | with_reducible refine Mod.drew ?_ | with_reducible refine Mod.drewN ?_ _ | with_reducible refine Mod.setCell ?_ (by first | exact .inl rfl | (left; (try unfold from_); show _ ≤ _; first | omega | (simp; done) | (simp; omega)) | (right; first | omega | (simp; done) | (simp; omega))) _ | with_reducible refine Mod.call0 ?_ (by with_reducible assumption) | with_reducible refine Mod.call ?_ (by with_reducible assumption) (by first | (rintro _ rfl; first | exact .inl rfl | (right; (first | omega | (simp; done) | (simp; omega)))) | (rintro _ (rfl | rfl) <;> (right; (first | omega | (simp; done) | (simp; omega)))))))) (first | (go_at_call 14; (with_reducible refine (fresh_calls _).mono ?_); rintro e w8 ⟨rfl, hbw8⟩; have hzw8 := hbw8.size; (try simp at hzw8); (try (have ltw80 : w7.heap.size < w8.heap.size := (by omega); have lcw80 := fun o => hbw8.cell (b := w7.heap.size) o (by first | omega | (simp; done) | (simp; omega)) (id); have lfw80 := fun o => hbw8.frozen (b := w7.heap.size) o (by first | omega | (simp; done) | (simp; omega)) (id))); (try (have ltw81 : w7.heap.size + 1 < w8.heap.size := (by omega); have lcw81 := fun o => hbw8.cell (b := w7.heap.size + 1) o (by first | omega | (simp; done) | (simp; omega)) (id); have lfw81 := fun o => hbw8.frozen (b := w7.heap.size + 1) o (by first | omega | (simp; done) | (simp; omega)) (id))); skip) | (go_at_call 10; (with_reducible refine (what_own _ _ _ _ _ _ _ _ _ _ _ _ rfl).mono ?_); rintro e w9 ⟨rfl, hbw9⟩; have hzw9 := hbw9.size; (try simp at hzw9); (try (have ltw90 : w7.heap.size < w9.heap.size := (by omega); have lcw90 := fun o => hbw9.cell (b := w7.heap.size) o (by first | omega | (simp; done) | (simp; omega)) (id); have lfw90 := fun o => hbw9.frozen (b := w7.heap.size) o (by first | omega | (simp; done) | (simp; omega)) (id))); (try (have ltw91 : w7.heap.size + 1 < w9.heap.size := (by omega); have lcw91 := fun o => hbw9.cell (b := w7.heap.size + 1) o (by first | omega | (simp; done) | (simp; omega)) (id); have lfw91 := fun o => hbw9.frozen (b := w7.heap.size + 1) o (by first | omega | (simp; done) | (simp; omega)) (id))); (try (have ltw92 : w8.heap.size < w9.heap.size := (by omega); have lcw92 := fun o => hbw9.cell (b := w8.heap.size) o (by first | omega | (simp; done) | (simp; omega)) (id); have lfw92 := fun o => hbw9.frozen (b := w8.heap.size) o (by first | omega | (simp; done) | (simp; omega)) (id))); skip))
            all_goals
              go_wp2_with fail
              go_meet
            all_goals exact ⟨rfl, (by repeat (first | with_reducible assumption | with_reducible apply Blk.new | with_reducible exact Blk.newAt (by first | rfl | (simp; done) | (simp; omega)) | with_reducible apply Blk.alloc | with_reducible apply Blk.drew | with_reducible apply Blk.drewN | with_reducible apply Blk.keep0 (hm := by with_reducible assumption) | with_reducible apply Blk.keep (hm := by with_reducible assumption) (hg := by first | omega | exact not_two (by omega) (by omega)) | with_reducible apply Blk.far (hp := by first | omega | (simp; done) | (simp; omega)) | with_reducible apply Blk.set1 | rfl)), (by repeat (first | with_reducible assumption | with_reducible apply IsGate.drew | with_reducible apply IsGate.alloc | with_reducible apply IsGate.keep0 (hm := by with_reducible assumption) | with_reducible apply IsGate.far (h1 := by first | omega | (simp; omega)) (h2 := by first | omega | (simp; omega)) (h3 := by first | omega | (simp; omega)) | with_reducible apply IsGate.keep (hm := by with_reducible assumption) (h1 := by omega) (h2 := by omega) (h3 := by omega))), (by repeat (first | with_reducible exact Mod.refl _ _ | with_reducible assumption | with_reducible refine Mod.alloc ?_ _ | with_reducible refine Mod.drew ?_ | with_reducible refine Mod.drewN ?_ _ | with_reducible refine Mod.setCell ?_ (by first | exact .inl rfl | (left; (try unfold from_); show _ ≤ _; first | omega | (simp; done) | (simp; omega)) | (right; first | omega | (simp; done) | (simp; omega))) _ | with_reducible refine Mod.call0 ?_ (by with_reducible assumption) | with_reducible refine Mod.call ?_ (by with_reducible assumption) (by first | (rintro _ rfl; first | exact .inl rfl | (right; (first | omega | (simp; done) | (simp; omega)))) | (rintro _ (rfl | rfl) <;> (right; (first | omega | (simp; done) | (simp; omega)))))))⟩
          case rest =>
            clear hxb
            obtain ⟨rfl, hx9, hg9, hmc⟩ := hcut
            have c_hx9 := hx9.cell; have f_hx9 := hx9.frozen; have l_hx9 := hx9.lt
            go_wp2
            go_roundw
            case rel => exact ⟨k + 1, x, _, rfl, by go_num, by omega, hg9, .inr ⟨t, by omega, by omega, by omega, rfl⟩, (by repeat (first | with_reducible exact Mod.refl _ _ | with_reducible assumption | with_reducible refine Mod.alloc ?_ _ | with_reducible refine Mod.drew ?_ | with_reducible refine Mod.drewN ?_ _ | with_reducible refine Mod.setCell ?_ (by first | exact .inl rfl | (left; (try unfold from_); show _ ≤ _; first | omega | (simp; done) | (simp; omega)) | (right; first | omega | (simp; done) | (simp; omega))) _ | with_reducible refine Mod.call0 ?_ (by with_reducible assumption) | with_reducible refine Mod.call ?_ (by with_reducible assumption) (by first | (rintro _ rfl; first | exact .inl rfl | (right; (first | omega | (simp; done) | (simp; omega)))) | (rintro _ (rfl | rfl) <;> (right; (first | omega | (simp; done) | (simp; omega)))))))⟩
            case measure => simp [intOf] <;> omega
        · have z1 : decide (x < least) = false := by simp; omega
          have z2 : decide (least < x) = true := by simp; omega
          have HM := hide (show metF ⟨-1, 0, 0, 0, 0⟩ ⟨least, 0, 0, 0, false⟩ = ⟨least, 1, 0, 0, 0⟩ by unfold metF; rw [if_neg (by simp only; omega)])
          have HL2 := hide (show lookF ⟨least, 1, 0, 0, 0⟩ 0 = ⟨least, 1, 0, 0, 1⟩ by unfold lookF moreF; simp)
          have hgs : goOrStay 9 1 = 3 := by decide
          go_wp2_with fail
          (with_reducible refine (fresh_calls _).mono ?_)
          rintro e w3 ⟨rfl, hbw3⟩
          have hzw3 := hbw3.size
          (try simp at hzw3)
          skip
          skip
          go_wp2_with fail
          (with_reducible refine (see_some g gw gp 6 least t 0 _ _ (by exact (by repeat (first | with_reducible assumption | with_reducible apply IsGate.drew | with_reducible apply IsGate.alloc | with_reducible apply IsGate.keep0 (hm := by with_reducible assumption) | with_reducible apply IsGate.far (h1 := by first | omega | (simp; omega)) (h2 := by first | omega | (simp; omega)) (h3 := by first | omega | (simp; omega)) | with_reducible apply IsGate.keep (hm := by with_reducible assumption) (h1 := by omega) (h2 := by omega) (h3 := by omega)))) (by omega) (by omega) (by omega) (by omega) HP6.out).mono ?_)
          rintro e w4 ⟨rfl, hkw4, hbw4⟩
          have hzw4 := hbw4.size
          (try simp at hzw4)
          skip
          skip
          go_wp2_with fail
          (with_reducible refine (what_look _ _ _ _ _ _ _ _ _ _ _ _ hgt i0 least 1 0 0 0 HM.out i0 least 1 0 0 1 HL2.out).mono ?_)
          rintro e w5 ⟨rfl, hbw5⟩
          have hzw5 := hbw5.size
          (try simp at hzw5)
          skip
          skip
          go_wp2_with fail
          (with_reducible refine (see_some g gw gp 6 least t 0 _ _ (by exact (by repeat (first | with_reducible assumption | with_reducible apply IsGate.drew | with_reducible apply IsGate.alloc | with_reducible apply IsGate.keep0 (hm := by with_reducible assumption) | with_reducible apply IsGate.far (h1 := by first | omega | (simp; omega)) (h2 := by first | omega | (simp; omega)) (h3 := by first | omega | (simp; omega)) | with_reducible apply IsGate.keep (hm := by with_reducible assumption) (h1 := by omega) (h2 := by omega) (h3 := by omega)))) (by omega) (by omega) (by omega) (by omega) HP6.out).mono ?_)
          rintro e w7 ⟨rfl, hkw7, hbw7⟩
          have hzw7 := hbw7.size
          (try simp at hzw7)
          skip
          skip
          go_upto_region 21 with fail
          generalize hxb : w7.heap.size = xb
          have hxb2 : w7.heap.size ≤ xb := by omega
          go_cut [11, 12] (fun s11 _ wx => s11 = .int .i64 2 ∧ Blk wx xb 25 #[.bool true, .int .i64 least, .int .i64 t, .int .i64 0] ∧ IsGate wx g gw gp 6 (least * 8 + t + 1) (List.replicate 6 0) ∧ Mod nowhere w wx)
          case first =>
            subst hxb
            clear hxb2
            go_region_held3 (fun w' => w'.cell? ⟨w7.heap.size, 0, none⟩ = some (.bool true) ∧ w'.cell? ⟨w7.heap.size, 1, none⟩ = some (.int .i64 least) ∧ w'.cell? ⟨w7.heap.size, 2, none⟩ = some (.int .i64 t) ∧ w'.cell? ⟨w7.heap.size, 3, none⟩ = some (.int .i64 0) ∧ Mod nowhere w w') ((repeat' apply And.intro) <;> first | (simp [*]; done) | (go_simp; done) | exact (by repeat (first | with_reducible exact Mod.refl _ _ | with_reducible assumption | with_reducible refine Mod.alloc ?_ _ | with_reducible refine Mod.drew ?_ | with_reducible refine Mod.drewN ?_ _ | with_reducible refine Mod.setCell ?_ (by first | exact .inl rfl | (left; (try unfold from_); show _ ≤ _; first | omega | (simp; done) | (simp; omega)) | (right; first | omega | (simp; done) | (simp; omega))) _ | with_reducible refine Mod.call0 ?_ (by with_reducible assumption) | with_reducible refine Mod.call ?_ (by with_reducible assumption) (by first | (rintro _ rfl; first | exact .inl rfl | (right; (first | omega | (simp; done) | (simp; omega)))) | (rintro _ (rfl | rfl) <;> (right; (first | omega | (simp; done) | (simp; omega)))))))) (first | (go_at_call 14; (with_reducible refine (fresh_calls _).mono ?_); rintro e w8 ⟨rfl, hbw8⟩; have hzw8 := hbw8.size; (try simp at hzw8); (try (have ltw80 : w7.heap.size < w8.heap.size := (by omega); have lcw80 := fun o => hbw8.cell (b := w7.heap.size) o (by first | omega | (simp; done) | (simp; omega)) (id); have lfw80 := fun o => hbw8.frozen (b := w7.heap.size) o (by first | omega | (simp; done) | (simp; omega)) (id))); (try (have ltw81 : w7.heap.size + 1 < w8.heap.size := (by omega); have lcw81 := fun o => hbw8.cell (b := w7.heap.size + 1) o (by first | omega | (simp; done) | (simp; omega)) (id); have lfw81 := fun o => hbw8.frozen (b := w7.heap.size + 1) o (by first | omega | (simp; done) | (simp; omega)) (id))); skip) | (go_at_call 10; (with_reducible refine (what_own _ _ _ _ _ _ _ _ _ _ _ _ rfl).mono ?_); rintro e w9 ⟨rfl, hbw9⟩; have hzw9 := hbw9.size; (try simp at hzw9); (try (have ltw90 : w7.heap.size < w9.heap.size := (by omega); have lcw90 := fun o => hbw9.cell (b := w7.heap.size) o (by first | omega | (simp; done) | (simp; omega)) (id); have lfw90 := fun o => hbw9.frozen (b := w7.heap.size) o (by first | omega | (simp; done) | (simp; omega)) (id))); (try (have ltw91 : w7.heap.size + 1 < w9.heap.size := (by omega); have lcw91 := fun o => hbw9.cell (b := w7.heap.size + 1) o (by first | omega | (simp; done) | (simp; omega)) (id); have lfw91 := fun o => hbw9.frozen (b := w7.heap.size + 1) o (by first | omega | (simp; done) | (simp; omega)) (id))); (try (have ltw92 : w8.heap.size < w9.heap.size := (by omega); have lcw92 := fun o => hbw9.cell (b := w8.heap.size) o (by first | omega | (simp; done) | (simp; omega)) (id); have lfw92 := fun o => hbw9.frozen (b := w8.heap.size) o (by first | omega | (simp; done) | (simp; omega)) (id))); skip))
            all_goals
              go_wp2_with fail
              go_meet
            all_goals exact ⟨rfl, (by repeat (first | with_reducible assumption | with_reducible apply Blk.new | with_reducible exact Blk.newAt (by first | rfl | (simp; done) | (simp; omega)) | with_reducible apply Blk.alloc | with_reducible apply Blk.drew | with_reducible apply Blk.drewN | with_reducible apply Blk.keep0 (hm := by with_reducible assumption) | with_reducible apply Blk.keep (hm := by with_reducible assumption) (hg := by first | omega | exact not_two (by omega) (by omega)) | with_reducible apply Blk.far (hp := by first | omega | (simp; done) | (simp; omega)) | with_reducible apply Blk.set1 | rfl)), (by repeat (first | with_reducible assumption | with_reducible apply IsGate.drew | with_reducible apply IsGate.alloc | with_reducible apply IsGate.keep0 (hm := by with_reducible assumption) | with_reducible apply IsGate.far (h1 := by first | omega | (simp; omega)) (h2 := by first | omega | (simp; omega)) (h3 := by first | omega | (simp; omega)) | with_reducible apply IsGate.keep (hm := by with_reducible assumption) (h1 := by omega) (h2 := by omega) (h3 := by omega))), (by repeat (first | with_reducible exact Mod.refl _ _ | with_reducible assumption | with_reducible refine Mod.alloc ?_ _ | with_reducible refine Mod.drew ?_ | with_reducible refine Mod.drewN ?_ _ | with_reducible refine Mod.setCell ?_ (by first | exact .inl rfl | (left; (try unfold from_); show _ ≤ _; first | omega | (simp; done) | (simp; omega)) | (right; first | omega | (simp; done) | (simp; omega))) _ | with_reducible refine Mod.call0 ?_ (by with_reducible assumption) | with_reducible refine Mod.call ?_ (by with_reducible assumption) (by first | (rintro _ rfl; first | exact .inl rfl | (right; (first | omega | (simp; done) | (simp; omega)))) | (rintro _ (rfl | rfl) <;> (right; (first | omega | (simp; done) | (simp; omega)))))))⟩
          case rest =>
            clear hxb
            obtain ⟨rfl, hx9, hg9, hmc⟩ := hcut
            have c_hx9 := hx9.cell; have f_hx9 := hx9.frozen; have l_hx9 := hx9.lt
            go_wp2
            go_roundw
            case rel => exact ⟨k + 1, least, _, rfl, by go_num, by omega, hg9, .inr ⟨t, by omega, by omega, by omega, rfl⟩, (by repeat (first | with_reducible exact Mod.refl _ _ | with_reducible assumption | with_reducible refine Mod.alloc ?_ _ | with_reducible refine Mod.drew ?_ | with_reducible refine Mod.drewN ?_ _ | with_reducible refine Mod.setCell ?_ (by first | exact .inl rfl | (left; (try unfold from_); show _ ≤ _; first | omega | (simp; done) | (simp; omega)) | (right; first | omega | (simp; done) | (simp; omega))) _ | with_reducible refine Mod.call0 ?_ (by with_reducible assumption) | with_reducible refine Mod.call ?_ (by with_reducible assumption) (by first | (rintro _ rfl; first | exact .inl rfl | (right; (first | omega | (simp; done) | (simp; omega)))) | (rintro _ (rfl | rfl) <;> (right; (first | omega | (simp; done) | (simp; omega)))))))⟩
            case measure => simp [intOf] <;> omega
    · go_wp2
      go_ret
      exact ⟨rfl, (by repeat (first | with_reducible exact Mod.refl _ _ | with_reducible assumption | with_reducible refine Mod.alloc ?_ _ | with_reducible refine Mod.drew ?_ | with_reducible refine Mod.drewN ?_ _ | with_reducible refine Mod.setCell ?_ (by first | exact .inl rfl | (left; (try unfold from_); show _ ≤ _; first | omega | (simp; done) | (simp; omega)) | (right; first | omega | (simp; done) | (simp; omega))) _ | with_reducible refine Mod.call0 ?_ (by with_reducible assumption) | with_reducible refine Mod.call ?_ (by with_reducible assumption) (by first | (rintro _ rfl; first | exact .inl rfl | (right; (first | omega | (simp; done) | (simp; omega)))) | (rintro _ (rfl | rfl) <;> (right; (first | omega | (simp; done) | (simp; omega)))))))⟩
end Go.Proofs.Ytiklhnngkebkeaa
