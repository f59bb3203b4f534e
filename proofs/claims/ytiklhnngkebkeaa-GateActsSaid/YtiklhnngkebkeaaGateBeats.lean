/- A pulse is how often its thread beat: the law GateBeats, walked. -/
import Derived.Test.YtiklhnngkebkeaaGateFalls
import Derived.Laws.StructEq
namespace Go.Proofs.Ytiklhnngkebkeaa
open Go.RowKit

abbrev Cnt (w : World) (g : Nat) (cs : List Int) : Prop := Blk w g 59 (cs.map (Value.int .i64)).toArray
def Like (cs ps : List Int) (N : Nat) : Prop := cs.length = 6 ∧ ps.length = N ∧ ∀ i, i < N → cs[i]? = ps[i]?
theorem Like.set {cs ps : List Int} {N : Nat} (h : Like cs ps N) (t : Nat) (v : Int) (hN : N ≤ 6) : Like (cs.set t v) (ps.set t v) N := by
  obtain ⟨h1, h2, h3⟩ := h
  refine ⟨by simpa using h1, by simpa using h2, fun i hi => ?_⟩
  have := h3 i hi
  rw [List.getElem?_set, List.getElem?_set]
  split
  · rw [if_pos (by omega), if_pos (by omega)]
  · exact this
theorem Cnt.cell_ {w : World} {g : Nat} {cs : List Int} (h : Cnt w g cs) {i : Nat} {v : Int} (hv : cs[i]? = some v) : w.cell? ⟨g, i, none⟩ = some (.int .i64 v) := (h.cell i).trans (by simp [hv])
theorem Cnt.set_ {w : World} {g : Nat} {cs : List Int} (h : Cnt w g cs) (i : Nat) (v : Int) : Cnt (w.setCell ⟨g, i, none⟩ (.int .i64 v)) g (cs.set i v) := by
  have := Blk.set_ h i (.int .i64 v)
  rwa [show (cs.map (Value.int .i64)).toArray.setIfInBounds i (.int .i64 v) = ((cs.set i v).map (Value.int .i64)).toArray by simp [List.map_set]] at this
theorem Like.at_ {cs ps : List Int} {N : Nat} (h : Like cs ps N) {i : Nat} (hi : i < N) : ∃ v, cs[i]? = some v ∧ ps[i]? = some v := by
  obtain ⟨h1, h2, h3⟩ := h
  exact ⟨ps[i]'(by omega), by rw [h3 i hi, List.getElem?_eq_getElem (by omega)], List.getElem?_eq_getElem (by omega)⟩

set_option maxRecDepth 100000 in
set_option maxHeartbeats 8000000 in
theorem law_gateBeats (threads who stamp : Int) (A : Option Addr) (n c : Nat) (l : List Int) (w : World) (ht0 : 0 ≤ threads) (ht1 : threads ≤ 255) (hw0 : 0 ≤ who) (hw1 : who ≤ 255) (hs0 : 0 ≤ stamp) (hs1 : stamp ≤ 255)
    (hl : l.length = n) (hr : Reads w w.heap.size 1 A n (l.map (Value.int .u8))) (hw8 : ∀ x ∈ l, 0 ≤ x ∧ x ≤ 255) :
    Calls Try.prog 8 #[.int .u8 threads, .int .u8 who, .int .u8 stamp, .slice A n c] w
     fun en w' => en = .returned (.bool true) ∧ Mod nowhere w w' := by
  by_cases g0 : 200 < n
  · go_enter Try.func8, Try.ntmps8
    go_wp2_with fail
    (with_reducible refine (alive10_calls _).mono ?_)
    rintro e w1 ⟨rfl, hbw1⟩
    have hzw1 := hbw1.size
    (try simp at hzw1)
    skip
    skip
    go_wp2
    go_ret
    exact ⟨rfl, (by repeat (first | with_reducible exact Mod.refl _ _ | with_reducible assumption | with_reducible refine Mod.alloc ?_ _ | with_reducible refine Mod.drew ?_ | with_reducible refine Mod.drewN ?_ _ | with_reducible refine Mod.setCell ?_ (by first | exact .inl rfl | (left; (try unfold from_); show _ ≤ _; first | omega | (simp; done) | (simp; omega)) | (right; first | omega | (simp; done) | (simp; omega))) _ | with_reducible refine Mod.call0 ?_ (by with_reducible assumption) | with_reducible refine Mod.call ?_ (by with_reducible assumption) (by first | (rintro _ rfl; first | exact .inl rfl | (right; (first | omega | (simp; done) | (simp; omega)))) | (rintro _ (rfl | rfl) <;> (right; (first | omega | (simp; done) | (simp; omega)))))))⟩
  have HR := hide hr
  have HL := hide hl
  have HW := hide hw8
  clear hr hl hw8
  have hm6 : 0 ≤ threads % 6 ∧ threads % 6 < 6 := by omega
  obtain ⟨N, hN⟩ : ∃ N : Nat, 1 + threads % 6 = (N : Int) := ⟨(1 + threads % 6).toNat, by omega⟩
  have hN1 : 1 ≤ N := by omega
  have hN6 : N ≤ 6 := by omega
  have hNi : (0 : Int) < (N : Int) := by omega
  obtain ⟨j, hj⟩ : ∃ j : Nat, who % (N : Int) = (j : Int) := ⟨(who % (N : Int)).toNat, by have := Int.emod_nonneg who (show (N : Int) ≠ 0 by omega); omega⟩
  have hjN : j < N := by have := Int.emod_lt_of_pos who (show (0 : Int) < (N : Int) by omega); omega
  go_enter Try.func8, Try.ntmps8
  go_wp2_with fail
  (with_reducible refine (alive10_calls _).mono ?_)
  rintro e w1 ⟨rfl, hbw1⟩
  have hzw1 := hbw1.size
  (try simp at hzw1)
  skip
  skip
  go_wp2_with fail
  (with_reducible refine (gnew_calls N _ hN1 hN6).mono ?_)
  rintro e w2 ⟨g, gw, gp, rfl, hg, b1, b2, b3, hm2⟩
  have hz2 := hm2.size
  have hw2 : Mod nowhere w w2 := (by repeat (first | with_reducible exact Mod.refl _ _ | with_reducible assumption | with_reducible refine Mod.alloc ?_ _ | with_reducible refine Mod.drew ?_ | with_reducible refine Mod.drewN ?_ _ | with_reducible refine Mod.setCell ?_ (by first | exact .inl rfl | (left; (try unfold from_); show _ ≤ _; first | omega | (simp; done) | (simp; omega)) | (right; first | omega | (simp; done) | (simp; omega))) _ | with_reducible refine Mod.call0 ?_ (by with_reducible assumption) | with_reducible refine Mod.call ?_ (by with_reducible assumption) (by first | (rintro _ rfl; first | exact .inl rfl | (right; (first | omega | (simp; done) | (simp; omega)))) | (rintro _ (rfl | rfl) <;> (right; (first | omega | (simp; done) | (simp; omega)))))))
  go_wp2_with fail
  (with_reducible refine (gswap_none_yes 0 0 0 stamp j g gw gp N 0 _ _ (by exact (by repeat (first | with_reducible assumption | with_reducible apply IsGate.drew | with_reducible apply IsGate.alloc | with_reducible apply IsGate.keep0 (hm := by with_reducible assumption) | with_reducible apply IsGate.far (h1 := by first | omega | (simp; omega)) (h2 := by first | omega | (simp; omega)) (h3 := by first | omega | (simp; omega)) | with_reducible apply IsGate.keep (hm := by with_reducible assumption) (h1 := by omega) (h2 := by omega) (h3 := by omega)))) (by omega) (by omega) (by omega) (by omega) (by omega) rfl).mono ?_)
  rintro e w3 ⟨rfl, hkw3, hbw3⟩
  have hzw3 := hbw3.size
  (try simp at hzw3)
  skip
  skip
  have hgn := hkw3
  go_wp2_with fail
  obtain ⟨cb, hcb⟩ : ∃ cb, cb = w3.heap.size := ⟨_, rfl⟩
  rw [← hcb]
  have l_gn := hgn.lt
  have hcb2 : cb ≠ g ∧ cb ≠ gw ∧ cb ≠ gp := by omega
  have hcb3 : w.heap.size ≤ cb := by omega
  have hc0 : Cnt (w3.alloc (.cells #[.int .i64 0, .int .i64 0, .int .i64 0, .int .i64 0, .int .i64 0, .int .i64 0] 59)) cb [0, 0, 0, 0, 0, 0] := Blk.newAt hcb
  have hlk0 : Like [0, 0, 0, 0, 0, 0] (List.replicate N 0) N := by
    refine ⟨rfl, by simp, fun i hi => ?_⟩
    have h6 : [(0 : Int), 0, 0, 0, 0, 0] = List.replicate 6 0 := rfl
    rw [h6, List.getElem?_replicate, List.getElem?_replicate, if_pos (by omega), if_pos hi]
  clear hcb
  go_loopw [13, 14, 15] (fun s13 _ _ wx => ∃ (k : Nat) (cs ps : List Int), s13 = .int .i64 k ∧ k ≤ n ∧ IsGate wx g gw gp N (stamp * 8 + j + 1) ps ∧ Cnt wx cb cs ∧ Like cs ps N ∧ Mod nowhere w wx)
    (fun s13 _ _ _ => (300 - (intOf s13)).toNat)
  case atStart => exact ⟨0, _, _, rfl, Nat.zero_le _, (by repeat (first | with_reducible assumption | with_reducible apply IsGate.drew | with_reducible apply IsGate.alloc | with_reducible apply IsGate.keep0 (hm := by with_reducible assumption) | with_reducible apply IsGate.far (h1 := by first | omega | (simp; omega)) (h2 := by first | omega | (simp; omega)) (h3 := by first | omega | (simp; omega)) | with_reducible apply IsGate.keep (hm := by with_reducible assumption) (h1 := by omega) (h2 := by omega) (h3 := by omega))), hc0, hlk0, (by repeat (first | with_reducible exact Mod.refl _ _ | with_reducible assumption | with_reducible refine Mod.alloc ?_ _ | with_reducible refine Mod.drew ?_ | with_reducible refine Mod.drewN ?_ _ | with_reducible refine Mod.setCell ?_ (by first | exact .inl rfl | (left; (try unfold from_); show _ ≤ _; first | omega | (simp; done) | (simp; omega)) | (right; first | omega | (simp; done) | (simp; omega))) _ | with_reducible refine Mod.call0 ?_ (by with_reducible assumption) | with_reducible refine Mod.call ?_ (by with_reducible assumption) (by first | (rintro _ rfl; first | exact .inl rfl | (right; (first | omega | (simp; done) | (simp; omega)))) | (rintro _ (rfl | rfl) <;> (right; (first | omega | (simp; done) | (simp; omega)))))))⟩
  case round =>
    obtain ⟨k, cs, ps, rfl, hk, hg, hc, hlk, hmr⟩ := hrel
    have l_g := hg.lt
    have l_c := hc.lt
    have f_c := hc.frozen
    by_cases hlt : k < n
    · obtain ⟨bb, o, rfl, hbl, hcell⟩ := HR.out.form (by omega) (by omega)
      have hm : l[k]'(by have := HL.out; omega) ∈ l := List.getElem_mem _
      have hd : (l.map (Value.int .u8))[k]? = some (.int .u8 (l[k]'(by have := HL.out; omega))) := by
        rw [List.getElem?_map, List.getElem?_eq_getElem (by have := HL.out; omega)]; rfl
      have hcd := (hmr.cell (o + k) hbl (fun x => x)).trans (hcell k _ hd)
      obtain ⟨hx0, hx1⟩ := HW.out _ hm
      generalize l[k]'(by have := HL.out; omega) = x at hcd hx0 hx1
      clear hd hcell hm
      obtain ⟨t, hxt⟩ : ∃ t : Nat, x % (N : Int) = (t : Int) := ⟨(x % (N : Int)).toNat, by have := Int.emod_nonneg x (show (N : Int) ≠ 0 by omega); omega⟩
      have htN : t < N := by have := Int.emod_lt_of_pos x (show (0 : Int) < (N : Int) by omega); omega
      obtain ⟨v, hv1, hv2⟩ := hlk.at_ htN
      have cv := hc.cell_ hv1
      have HV2 := hide hv2
      have t0 : (0 : Int) ≤ (t : Int) := by omega
      have t6 : (t : Int) < 6 := by omega
      clear hv1 hv2
      have HLK := hide (hlk.set t (wrap64 (v + 1)) hN6)
      clear hlk
      go_wp2_with fail
      have hc1 := hc.set_ t (wrap64 (v + 1))
      have hg1 : IsGate (wr.setCell ⟨cb, t, none⟩ (.int .i64 (wrap64 (v + 1)))) g gw gp N (stamp * 8 + j + 1) ps := hg.far (by simp; omega) (by simp; omega) (by simp; omega)
      (with_reducible refine (beat_ok t v g gw gp N _ ps _ hg1 htN HV2.out).mono ?_)
      rintro e w4 ⟨rfl, hg4, hm4⟩
      have hc4 : Cnt w4 cb (cs.set t (wrap64 (v + 1))) := Blk.keep hc1 hm4 (by omega)
      have hz4 := hm4.size
      (try simp at hz4)
      clear cv hc1 hg1
      have l_4 := hg4.lt
      have hm5 : Mod nowhere w w4 := (by repeat (first | with_reducible exact Mod.refl _ _ | with_reducible assumption | with_reducible refine Mod.alloc ?_ _ | with_reducible refine Mod.drew ?_ | with_reducible refine Mod.drewN ?_ _ | with_reducible refine Mod.setCell ?_ (by first | exact .inl rfl | (left; (try unfold from_); show _ ≤ _; first | omega | (simp; done) | (simp; omega)) | (right; first | omega | (simp; done) | (simp; omega))) _ | with_reducible refine Mod.call0 ?_ (by with_reducible assumption) | with_reducible refine Mod.call ?_ (by with_reducible assumption) (by first | (rintro _ rfl; first | exact .inl rfl | (right; (first | omega | (simp; done) | (simp; omega)))) | (rintro _ (rfl | rfl) <;> (right; (first | omega | (simp; done) | (simp; omega)))))))
      obtain ⟨wo, hwo⟩ : ∃ wo : World, wo = w4 := ⟨_, rfl⟩
      subst hwo
      have f_c4 := hc4.frozen
      have l_c4 := hc4.lt
      go_wp2_with fail
      go_loopw [15] (fun s15 wx => ∃ (i : Nat), s15 = .int .i64 i ∧ i ≤ N ∧ Mod nowhere wo wx)
        (fun s15 _ => (300 - (intOf s15)).toNat)
      case atStart => exact ⟨0, rfl, Nat.zero_le _, Mod.refl _ _⟩
      case round =>
        obtain ⟨i, rfl, hi, hmi⟩ := hrel
        have hci : Cnt wr cb (cs.set t (wrap64 (v + 1))) := Blk.keep0 hc4 hmi
        have hgi := hg4.keep0 hmi
        have hmw : Mod nowhere w wr := (by repeat (first | with_reducible exact Mod.refl _ _ | with_reducible assumption | with_reducible refine Mod.alloc ?_ _ | with_reducible refine Mod.drew ?_ | with_reducible refine Mod.drewN ?_ _ | with_reducible refine Mod.setCell ?_ (by first | exact .inl rfl | (left; (try unfold from_); show _ ≤ _; first | omega | (simp; done) | (simp; omega)) | (right; first | omega | (simp; done) | (simp; omega))) _ | with_reducible refine Mod.call0 ?_ (by with_reducible assumption) | with_reducible refine Mod.call ?_ (by with_reducible assumption) (by first | (rintro _ rfl; first | exact .inl rfl | (right; (first | omega | (simp; done) | (simp; omega)))) | (rintro _ (rfl | rfl) <;> (right; (first | omega | (simp; done) | (simp; omega)))))))
        by_cases hiN : i < N
        · obtain ⟨u, hu1, hu2⟩ := HLK.out.at_ hiN
          have cu := hci.cell_ hu1
          have HU := hide hu2
          have i0 : (0 : Int) ≤ (i : Int) := by omega
          have i6 : (i : Int) < 6 := by omega
          clear hu1 hu2
          go_wp2_with fail
          go_region_held3 (fun w' => w'.cell? ⟨cb, i, none⟩ = some (.int .i64 u) ∧ Mod nowhere w w') ((repeat' apply And.intro) <;> first | (simp [*]; done) | (go_simp; done) | exact (by repeat (first | with_reducible exact Mod.refl _ _ | with_reducible assumption | with_reducible refine Mod.alloc ?_ _ | with_reducible refine Mod.drew ?_ | with_reducible refine Mod.drewN ?_ _ | with_reducible refine Mod.setCell ?_ (by first | exact .inl rfl | (left; (try unfold from_); show _ ≤ _; first | omega | (simp; done) | (simp; omega)) | (right; first | omega | (simp; done) | (simp; omega))) _ | with_reducible refine Mod.call0 ?_ (by with_reducible assumption) | with_reducible refine Mod.call ?_ (by with_reducible assumption) (by first | (rintro _ rfl; first | exact .inl rfl | (right; (first | omega | (simp; done) | (simp; omega)))) | (rintro _ (rfl | rfl) <;> (right; (first | omega | (simp; done) | (simp; omega)))))))) ((go_at_call 22; (with_reducible refine (pulse_ok i u g gw gp N _ (ps.set t (wrap64 (v + 1))) _ (by exact (by repeat (first | with_reducible assumption | with_reducible apply IsGate.drew | with_reducible apply IsGate.alloc | with_reducible apply IsGate.keep0 (hm := by with_reducible assumption) | with_reducible apply IsGate.far (h1 := by first | omega | (simp; omega)) (h2 := by first | omega | (simp; omega)) (h3 := by first | omega | (simp; omega)) | with_reducible apply IsGate.keep (hm := by with_reducible assumption) (h1 := by omega) (h2 := by omega) (h3 := by omega)))) hiN HU.out).mono ?_); rintro e w' ⟨rfl, rfl⟩))
          all_goals
            go_wp2
            go_roundw
            case rel => exact ⟨i + 1, by go_num, by omega, (by repeat (first | with_reducible exact Mod.refl _ _ | with_reducible assumption | with_reducible refine Mod.alloc ?_ _ | with_reducible refine Mod.drew ?_ | with_reducible refine Mod.drewN ?_ _ | with_reducible refine Mod.setCell ?_ (by first | exact .inl rfl | (left; (try unfold from_); show _ ≤ _; first | omega | (simp; done) | (simp; omega)) | (right; first | omega | (simp; done) | (simp; omega))) _ | with_reducible refine Mod.call0 ?_ (by with_reducible assumption) | with_reducible refine Mod.call ?_ (by with_reducible assumption) (by first | (rintro _ rfl; first | exact .inl rfl | (right; (first | omega | (simp; done) | (simp; omega)))) | (rintro _ (rfl | rfl) <;> (right; (first | omega | (simp; done) | (simp; omega)))))))⟩
            case measure => simp [intOf] <;> omega
        · obtain ⟨u, hu1, hu2⟩ := HLK.out.at_ hjN
          have cu := hci.cell_ hu1
          have HU := hide hu2
          have j0 : (0 : Int) ≤ (j : Int) := by omega
          have j6 : (j : Int) < 6 := by omega
          have hjm : Int.tmod who (N : Int) = (j : Int) := by rw [Int.tmod_eq_emod_of_nonneg hw0]; exact hj
          have hNz : ((N : Int) == 0) = false := beq_eq_false_iff_ne.2 (by omega)
          have hNz3 : ¬ N = 0 := by omega
          have hjw : IntKind.i64.wrap (j : Int) = (j : Int) := IntWalk.i64_in _ (by omega)
          have hww : IntKind.i64.wrap who = who := IntWalk.i64_in _ (by omega)
          have hsw : IntKind.i64.wrap stamp = stamp := IntWalk.i64_in _ (by omega)
          have l_ci := hci.lt
          have l_gi := hgi.lt
          clear hu1 hu2
          go_wp2_with fail
          go_region_held3 (fun w' => w'.cell? ⟨cb, j, none⟩ = some (.int .i64 u) ∧ Mod nowhere w w') ((repeat' apply And.intro) <;> first | (simp [*]; done) | (go_simp; done) | exact (by repeat (first | with_reducible exact Mod.refl _ _ | with_reducible assumption | with_reducible refine Mod.alloc ?_ _ | with_reducible refine Mod.drew ?_ | with_reducible refine Mod.drewN ?_ _ | with_reducible refine Mod.setCell ?_ (by first | exact .inl rfl | (left; (try unfold from_); show _ ≤ _; first | omega | (simp; done) | (simp; omega)) | (right; first | omega | (simp; done) | (simp; omega))) _ | with_reducible refine Mod.call0 ?_ (by with_reducible assumption) | with_reducible refine Mod.call ?_ (by with_reducible assumption) (by first | (rintro _ rfl; first | exact .inl rfl | (right; (first | omega | (simp; done) | (simp; omega)))) | (rintro _ (rfl | rfl) <;> (right; (first | omega | (simp; done) | (simp; omega)))))))) ((go_at_call 15; (with_reducible refine (see_some g gw gp N stamp j u (ps.set t (wrap64 (v + 1))) _ (by exact (by repeat (first | with_reducible assumption | with_reducible apply IsGate.drew | with_reducible apply IsGate.alloc | with_reducible apply IsGate.keep0 (hm := by with_reducible assumption) | with_reducible apply IsGate.far (h1 := by first | omega | (simp; omega)) (h2 := by first | omega | (simp; omega)) (h3 := by first | omega | (simp; omega)) | with_reducible apply IsGate.keep (hm := by with_reducible assumption) (h1 := by omega) (h2 := by omega) (h3 := by omega)))) (by omega) (by omega) hjN hN6 HU.out).mono ?_); rintro e w7 ⟨rfl, hkw7, hbw7⟩; have hzw7 := hbw7.size; (try simp at hzw7); (try (have ltw70 : cb < w7.heap.size := (by omega); have lcw70 := fun o => hbw7.cell (b := cb) o (by first | omega | (simp; done) | (simp; omega)) (by first | omega | (simp; omega)); have lfw70 := fun o => hbw7.frozen (b := cb) o (by first | omega | (simp; done) | (simp; omega)) (by first | omega | (simp; omega)))); skip))
          all_goals
            go_wp2
            go_roundw
            case rel => exact ⟨k + 1, _, _, by go_num, by omega, (by repeat (first | with_reducible assumption | with_reducible apply IsGate.drew | with_reducible apply IsGate.alloc | with_reducible apply IsGate.keep0 (hm := by with_reducible assumption) | with_reducible apply IsGate.far (h1 := by first | omega | (simp; omega)) (h2 := by first | omega | (simp; omega)) (h3 := by first | omega | (simp; omega)) | with_reducible apply IsGate.keep (hm := by with_reducible assumption) (h1 := by omega) (h2 := by omega) (h3 := by omega))), Blk.drew (by repeat (first | with_reducible assumption | with_reducible apply Blk.new | with_reducible exact Blk.newAt (by first | rfl | (simp; done) | (simp; omega)) | with_reducible apply Blk.alloc | with_reducible apply Blk.drew | with_reducible apply Blk.drewN | with_reducible apply Blk.keep0 (hm := by with_reducible assumption) | with_reducible apply Blk.keep (hm := by with_reducible assumption) (hg := by first | omega | exact not_two (by omega) (by omega)) | with_reducible apply Blk.far (hp := by first | omega | (simp; done) | (simp; omega)) | with_reducible apply Blk.set1 | rfl)), HLK.out, (by repeat (first | with_reducible exact Mod.refl _ _ | with_reducible assumption | with_reducible refine Mod.alloc ?_ _ | with_reducible refine Mod.drew ?_ | with_reducible refine Mod.drewN ?_ _ | with_reducible refine Mod.setCell ?_ (by first | exact .inl rfl | (left; (try unfold from_); show _ ≤ _; first | omega | (simp; done) | (simp; omega)) | (right; first | omega | (simp; done) | (simp; omega))) _ | with_reducible refine Mod.call0 ?_ (by with_reducible assumption) | with_reducible refine Mod.call ?_ (by with_reducible assumption) (by first | (rintro _ rfl; first | exact .inl rfl | (right; (first | omega | (simp; done) | (simp; omega)))) | (rintro _ (rfl | rfl) <;> (right; (first | omega | (simp; done) | (simp; omega)))))))⟩
            case measure => simp [intOf] <;> omega
    · go_wp2_with fail
      (with_reducible refine (gleave_yes stamp j g gw gp N (stamp * 8 + j + 1) ps _ (by exact (by repeat (first | with_reducible assumption | with_reducible apply IsGate.drew | with_reducible apply IsGate.alloc | with_reducible apply IsGate.keep0 (hm := by with_reducible assumption) | with_reducible apply IsGate.far (h1 := by first | omega | (simp; omega)) (h2 := by first | omega | (simp; omega)) (h3 := by first | omega | (simp; omega)) | with_reducible apply IsGate.keep (hm := by with_reducible assumption) (h1 := by omega) (h2 := by omega) (h3 := by omega)))) (by omega) (by omega) hN6 (by omega) (by omega) rfl).mono ?_)
      rintro e w8 ⟨rfl, hkw8, hbw8⟩
      have hzw8 := hbw8.size
      (try simp at hzw8)
      skip
      skip
      go_wp2_with fail
      (with_reducible refine (see_none g gw gp N ps _ (by exact (by repeat (first | with_reducible assumption | with_reducible apply IsGate.drew | with_reducible apply IsGate.alloc | with_reducible apply IsGate.keep0 (hm := by with_reducible assumption) | with_reducible apply IsGate.far (h1 := by first | omega | (simp; omega)) (h2 := by first | omega | (simp; omega)) (h3 := by first | omega | (simp; omega)) | with_reducible apply IsGate.keep (hm := by with_reducible assumption) (h1 := by omega) (h2 := by omega) (h3 := by omega))))).mono ?_)
      rintro e w9 ⟨rfl, hkw9, hbw9⟩
      have hzw9 := hbw9.size
      (try simp at hzw9)
      skip
      skip
      go_wp2
      go_ret
      exact ⟨rfl, (by repeat (first | with_reducible exact Mod.refl _ _ | with_reducible assumption | with_reducible refine Mod.alloc ?_ _ | with_reducible refine Mod.drew ?_ | with_reducible refine Mod.drewN ?_ _ | with_reducible refine Mod.setCell ?_ (by first | exact .inl rfl | (left; (try unfold from_); show _ ≤ _; first | omega | (simp; done) | (simp; omega)) | (right; first | omega | (simp; done) | (simp; omega))) _ | with_reducible refine Mod.call0 ?_ (by with_reducible assumption) | with_reducible refine Mod.call ?_ (by with_reducible assumption) (by first | (rintro _ rfl; first | exact .inl rfl | (right; (first | omega | (simp; done) | (simp; omega)))) | (rintro _ (rfl | rfl) <;> (right; (first | omega | (simp; done) | (simp; omega)))))))⟩
end Go.Proofs.Ytiklhnngkebkeaa
