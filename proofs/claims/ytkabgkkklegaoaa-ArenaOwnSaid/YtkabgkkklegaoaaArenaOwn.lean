/- Two arenas have nothing to do with each other: the law ArenaOwn, walked. -/
import Derived.Test.YtkabgkkklegaoaaArena2
import Derived.Test.YtkabgkkklegaoaaB2
import Derived.LoopTactic
import Derived.IntWalk
import Derived.Outline
namespace Go.Proofs.Ytkabgkkklegaoaa
open Go.RowKit

theorem take_snoc_map (l : List Int) (k : Nat) (x : Int) (h : l[k]? = some x) : (l.take k).map (Value.int .i64) ++ [.int .i64 x] = (l.take (k + 1)).map (Value.int .i64) := by
  rw [List.take_add_one, h]
  simp
theorem take_all_map (l : List Int) (k : Nat) (h : l.length ≤ k) : (l.take k).map (Value.int .i64) = (l.take (k + 1)).map (Value.int .i64) := by
  rw [List.take_of_length_le h, List.take_of_length_le (by omega)]

set_option maxRecDepth 100000 in
set_option maxHeartbeats 4000000 in
theorem law_arenaOwn (A : Option Addr) (na ca : Nat) (la : List Int) (B : Option Addr) (nb cb : Nat) (lb : List Int) (w : World) (hla : la.length = na) (hra : Reads w w.heap.size 1 A na (la.map (Value.int .i64)))
    (hlb : lb.length = nb) (hrb : Reads w w.heap.size 1 B nb (lb.map (Value.int .i64))) :
    Calls Try.prog 9 #[.slice A na ca, .slice B nb cb] w
     fun en w' => en = .returned (.bool true) ∧ Mod nowhere w w' := by
  by_cases g0 : 200 < na ∨ 200 < nb
  · go_enter Try.func9, Try.ntmps9
    go_wp2_with fail
    (with_reducible refine (alive2_calls _).mono ?_)
    rintro e w1 ⟨rfl, hbw1⟩
    have hzw1 := hbw1.size
    (try simp at hzw1)
    skip
    skip
    go_wp2
    all_goals first | (exfalso; omega) | skip
    all_goals go_ret
    all_goals exact ⟨rfl, (by repeat (first | with_reducible exact Mod.refl _ _ | with_reducible assumption | with_reducible refine Mod.alloc ?_ _ | with_reducible refine Mod.drew ?_ | with_reducible refine Mod.drewN ?_ _ | with_reducible refine Mod.setCell ?_ (by first | exact .inl rfl | (left; (try unfold from_); show _ ≤ _; first | omega | (simp; done) | (simp; omega)) | (right; first | omega | (simp; done) | (simp; omega))) _ | with_reducible refine Mod.call0 ?_ (by with_reducible assumption) | with_reducible refine Mod.call ?_ (by with_reducible assumption) (by first | (rintro _ rfl; first | exact .inl rfl | (right; (first | omega | (simp; done) | (simp; omega)))) | (rintro _ (rfl | rfl) <;> (right; (first | omega | (simp; done) | (simp; omega)))))))⟩
  have g1 : na ≤ 200 := by omega
  have g2 : nb ≤ 200 := by omega
  have HRa := hide hra
  have HLa := hide hla
  have HRb := hide hrb
  have HLb := hide hlb
  clear hra hla hrb hlb g0
  go_enter Try.func9, Try.ntmps9
  go_wp2_with fail
  (with_reducible refine (alive2_calls _).mono ?_)
  rintro e w1 ⟨rfl, hbw1⟩
  have hzw1 := hbw1.size
  (try simp at hzw1)
  skip
  skip
  go_wp2_with (go_at_call 24; (with_reducible refine (anew_int 400 _ (by decide) (by decide)).mono ?_); rintro e w' ⟨rfl, rfl⟩)
  go_loopw [9, 10, 11, 12, 13] (fun s9 _ _ _ _ wx => ∃ (k r r' p q : Nat) (xs ys : List Value), s9 = .int .i64 k ∧ (k ≤ na ∨ k ≤ nb) ∧ p = min k na ∧ q = min k nb ∧ xs = (la.take k).map (.int .i64) ∧ ys = (lb.take k).map (.int .i64) ∧ Arn_int wx w1.heap.size r p 400 xs ∧ Arn_int wx (w1.heap.size + 1) r' q 400 ys ∧
      w1.heap.size ≤ r ∧ w1.heap.size ≤ r' ∧ r ≠ r' ∧ r ≠ w1.heap.size + 1 ∧ r' ≠ w1.heap.size ∧ Mod nowhere w wx)
    (fun s9 _ _ _ _ _ => (300 - (intOf s9)).toNat)
  case atStart =>
    refine ⟨0, w1.heap.size, w1.heap.size + 1, 0, 0, [], [], rfl, .inl (Nat.zero_le _), by omega, by omega, rfl, rfl, ?_, ?_, by omega, by omega, by omega, by omega, by omega, (by repeat (first | with_reducible exact Mod.refl _ _ | with_reducible assumption | with_reducible refine Mod.alloc ?_ _ | with_reducible refine Mod.drew ?_ | with_reducible refine Mod.drewN ?_ _ | with_reducible refine Mod.setCell ?_ (by first | exact .inl rfl | (left; (try unfold from_); show _ ≤ _; first | omega | (simp; done) | (simp; omega)) | (right; first | omega | (simp; done) | (simp; omega))) _ | with_reducible refine Mod.call0 ?_ (by with_reducible assumption) | with_reducible refine Mod.call ?_ (by with_reducible assumption) (by first | (rintro _ rfl; first | exact .inl rfl | (right; (first | omega | (simp; done) | (simp; omega)))) | (rintro _ (rfl | rfl) <;> (right; (first | omega | (simp; done) | (simp; omega)))))))⟩
    · exact Own.start (mk := fun s => #[s, .int .i64 400]) (by repeat (first | with_reducible assumption | with_reducible apply Blk.new | with_reducible exact Blk.newAt (by first | rfl | (simp; done) | (simp; omega)) | with_reducible apply Blk.alloc | with_reducible apply Blk.drew | with_reducible apply Blk.drewN | with_reducible apply Blk.keep0 (hm := by with_reducible assumption) | with_reducible apply Blk.keep (hm := by with_reducible assumption) (hg := by first | omega | exact not_two (by omega) (by omega)) | with_reducible apply Blk.far (hp := by first | omega | (simp; done) | (simp; omega)) | with_reducible apply Blk.set1 | rfl))
    · exact Own.start (mk := fun s => #[s, .int .i64 400]) (by repeat (first | with_reducible assumption | with_reducible apply Blk.new | with_reducible exact Blk.newAt (by first | rfl | (simp; done) | (simp; omega)) | with_reducible apply Blk.alloc | with_reducible apply Blk.drew | with_reducible apply Blk.drewN | with_reducible apply Blk.keep0 (hm := by with_reducible assumption) | with_reducible apply Blk.keep (hm := by with_reducible assumption) (hg := by first | omega | exact not_two (by omega) (by omega)) | with_reducible apply Blk.far (hp := by first | omega | (simp; done) | (simp; omega)) | with_reducible apply Blk.set1 | rfl))
  case round =>
    obtain ⟨k, r, r', p, q, xs, ys, rfl, hk, hp, hq, hxs, hys, ha, hb, b1, b2, b3, b4, b5, hmr⟩ := hrel
    have HX := hide hxs
    have HY := hide hys
    have HP := hide hp
    have HQ := hide hq
    clear hxs hys hp hq
    have l_a := ha.lt
    have l_b := hb.lt
    by_cases hka : k < na
    · obtain ⟨b, o, rfl, hbl, hcx⟩ := HRa.out.form (by omega) (by omega)
      have ex : la[k]? = some (la[k]'(by have := HLa.out; omega)) := List.getElem?_eq_getElem (by have := HLa.out; omega)
      generalize la[k]'(by have := HLa.out; omega) = x at ex
      have dx := (hmr.cell (o + k) hbl (fun x => x)).trans (hcx k (.int .i64 x) (by rw [List.getElem?_map, ex]; rfl))
      have HEX := hide ((congrArg (· ++ [Value.int .i64 x]) HX.out).trans (take_snoc_map la k x ex))
      have hbr : b < wr.heap.size := by have := hmr.size; omega
      clear ex hcx
      obtain rfl : p = k := by have := HP.out; omega
      by_cases hkb : p < nb
      · obtain ⟨b', o', rfl, hbl', hcy⟩ := HRb.out.form (by omega) (by omega)
        have ey : lb[p]? = some (lb[p]'(by have := HLb.out; omega)) := List.getElem?_eq_getElem (by have := HLb.out; omega)
        generalize lb[p]'(by have := HLb.out; omega) = y at ey
        have dy := (hmr.cell (o' + p) hbl' (fun x => x)).trans (hcy p (.int .i64 y) (by rw [List.getElem?_map, ey]; rfl))
        have HEY := hide ((congrArg (· ++ [Value.int .i64 y]) HY.out).trans (take_snoc_map lb p y ey))
        have hbr' : b' < wr.heap.size := by have := hmr.size; omega
        clear ey hcy
        obtain rfl : q = p := by have := HQ.out; omega
        go_wp2_with fail
        (with_reducible refine (aput_int x w1.heap.size r q 400 xs _ ha (by omega) (by omega)).mono ?_)
        rintro e w5 ⟨rfl, ⟨r2, hq2, hn2, ha2⟩, hm5⟩
        have hz5 := hm5.size
        have l_2 := ha2.lt
        have cy5 := (hm5.cell (o' + q) (b := b') (by omega) (by omega)).trans dy
        have hb5 := Own.keep hb hm5 (by omega) (by omega)
        go_wp2_with fail
        (with_reducible refine (aput_int y (w1.heap.size + 1) r' q 400 ys _ hb5 (by omega) (by omega)).mono ?_)
        rintro e w6 ⟨rfl, ⟨r3, hq3, hn3, hb3⟩, hm6⟩
        have hz6 := hm6.size
        have ha3 := Own.keep ha2 hm6 (by omega) (by omega)
        go_wp2
        go_roundw
        case rel => exact ⟨q + 1, r2, r3, q + 1, q + 1, _, _, by go_num, by omega, by omega, by omega, HEX.out, HEY.out, ha3, hb3, by omega, by omega, by omega, by omega, by omega, (by repeat (first | with_reducible exact Mod.refl _ _ | with_reducible assumption | with_reducible refine Mod.alloc ?_ _ | with_reducible refine Mod.drew ?_ | with_reducible refine Mod.drewN ?_ _ | with_reducible refine Mod.setCell ?_ (by first | exact .inl rfl | (left; (try unfold from_); show _ ≤ _; first | omega | (simp; done) | (simp; omega)) | (right; first | omega | (simp; done) | (simp; omega))) _ | with_reducible refine Mod.call0 ?_ (by with_reducible assumption) | with_reducible refine Mod.call ?_ (by with_reducible assumption) (by first | (rintro _ rfl; first | exact .inl rfl | (right; (first | omega | (simp; done) | (simp; omega)))) | (rintro _ (rfl | rfl) <;> (right; (first | omega | (simp; done) | (simp; omega)))))))⟩
        case measure => simp [intOf] <;> omega
      · have HEY := hide (HY.out.trans (take_all_map lb p (by have := HLb.out; omega)))
        obtain rfl : q = nb := by have := HQ.out; omega
        go_wp2_with fail
        (with_reducible refine (aput_int x w1.heap.size r p 400 xs _ ha (by omega) (by omega)).mono ?_)
        rintro e w5 ⟨rfl, ⟨r2, hq2, hn2, ha2⟩, hm5⟩
        have hz5 := hm5.size
        have l_2 := ha2.lt
        have hb5 := Own.keep hb hm5 (by omega) (by omega)
        go_wp2
        go_roundw
        case rel => exact ⟨p + 1, r2, r', p + 1, q, _, _, by go_num, by omega, by omega, by omega, HEX.out, HEY.out, ha2, hb5, by omega, by omega, by omega, by omega, by omega, (by repeat (first | with_reducible exact Mod.refl _ _ | with_reducible assumption | with_reducible refine Mod.alloc ?_ _ | with_reducible refine Mod.drew ?_ | with_reducible refine Mod.drewN ?_ _ | with_reducible refine Mod.setCell ?_ (by first | exact .inl rfl | (left; (try unfold from_); show _ ≤ _; first | omega | (simp; done) | (simp; omega)) | (right; first | omega | (simp; done) | (simp; omega))) _ | with_reducible refine Mod.call0 ?_ (by with_reducible assumption) | with_reducible refine Mod.call ?_ (by with_reducible assumption) (by first | (rintro _ rfl; first | exact .inl rfl | (right; (first | omega | (simp; done) | (simp; omega)))) | (rintro _ (rfl | rfl) <;> (right; (first | omega | (simp; done) | (simp; omega)))))))⟩
        case measure => simp [intOf] <;> omega
    · by_cases hkb : k < nb
      · have HEX := hide (HX.out.trans (take_all_map la k (by have := HLa.out; omega)))
        obtain rfl : p = na := by have := HP.out; omega
        obtain ⟨b', o', rfl, hbl', hcy⟩ := HRb.out.form (by omega) (by omega)
        have ey : lb[k]? = some (lb[k]'(by have := HLb.out; omega)) := List.getElem?_eq_getElem (by have := HLb.out; omega)
        generalize lb[k]'(by have := HLb.out; omega) = y at ey
        have dy := (hmr.cell (o' + k) hbl' (fun x => x)).trans (hcy k (.int .i64 y) (by rw [List.getElem?_map, ey]; rfl))
        have HEY := hide ((congrArg (· ++ [Value.int .i64 y]) HY.out).trans (take_snoc_map lb k y ey))
        have hbr' : b' < wr.heap.size := by have := hmr.size; omega
        clear ey hcy
        obtain rfl : q = k := by have := HQ.out; omega
        go_wp2_with fail
        (with_reducible refine (aput_int y (w1.heap.size + 1) r' q 400 ys _ hb (by omega) (by omega)).mono ?_)
        rintro e w6 ⟨rfl, ⟨r3, hq3, hn3, hb3⟩, hm6⟩
        have hz6 := hm6.size
        have ha3 := Own.keep ha hm6 (by omega) (by omega)
        go_wp2
        go_roundw
        case rel => exact ⟨q + 1, r, r3, p, q + 1, _, _, by go_num, by omega, by omega, by omega, HEX.out, HEY.out, ha3, hb3, by omega, by omega, by omega, by omega, by omega, (by repeat (first | with_reducible exact Mod.refl _ _ | with_reducible assumption | with_reducible refine Mod.alloc ?_ _ | with_reducible refine Mod.drew ?_ | with_reducible refine Mod.drewN ?_ _ | with_reducible refine Mod.setCell ?_ (by first | exact .inl rfl | (left; (try unfold from_); show _ ≤ _; first | omega | (simp; done) | (simp; omega)) | (right; first | omega | (simp; done) | (simp; omega))) _ | with_reducible refine Mod.call0 ?_ (by with_reducible assumption) | with_reducible refine Mod.call ?_ (by with_reducible assumption) (by first | (rintro _ rfl; first | exact .inl rfl | (right; (first | omega | (simp; done) | (simp; omega)))) | (rintro _ (rfl | rfl) <;> (right; (first | omega | (simp; done) | (simp; omega)))))))⟩
        case measure => simp [intOf] <;> omega
      · obtain rfl : p = na := by have := HP.out; omega
        obtain rfl : q = nb := by have := HQ.out; omega
        have hX : xs = la.map (Value.int .i64) := by rw [HX.out, List.take_of_length_le (by have := HLa.out; omega)]
        have hY : ys = lb.map (Value.int .i64) := by rw [HY.out, List.take_of_length_le (by have := HLb.out; omega)]
        clear HX HY HP HQ hk
        subst hX hY
        obtain ⟨wo, rfl⟩ : ∃ wo : World, wo = wr := ⟨_, rfl⟩
        go_wp2
        go_loopw [14, 15, 16] (fun s14 _ _ wx => ∃ (k : Nat), s14 = .int .i64 k ∧ k ≤ p ∧ Mod nowhere wo wx)
          (fun s14 _ _ _ => (300 - (intOf s14)).toNat)
        case atStart => exact ⟨0, rfl, Nat.zero_le _, Mod.refl _ _⟩
        case round =>
          obtain ⟨j, rfl, hj, hmj⟩ := hrel
          by_cases hjp : j < p
          · obtain ⟨b, o, rfl, hbl, hcx⟩ := HRa.out.form (by omega) (by omega)
            have ex : la[j]? = some (la[j]'(by have := HLa.out; omega)) := List.getElem?_eq_getElem (by have := HLa.out; omega)
            generalize la[j]'(by have := HLa.out; omega) = x at ex
            have hmw : Mod nowhere w wr := (by repeat (first | with_reducible exact Mod.refl _ _ | with_reducible assumption | with_reducible refine Mod.alloc ?_ _ | with_reducible refine Mod.drew ?_ | with_reducible refine Mod.drewN ?_ _ | with_reducible refine Mod.setCell ?_ (by first | exact .inl rfl | (left; (try unfold from_); show _ ≤ _; first | omega | (simp; done) | (simp; omega)) | (right; first | omega | (simp; done) | (simp; omega))) _ | with_reducible refine Mod.call0 ?_ (by with_reducible assumption) | with_reducible refine Mod.call ?_ (by with_reducible assumption) (by first | (rintro _ rfl; first | exact .inl rfl | (right; (first | omega | (simp; done) | (simp; omega)))) | (rintro _ (rfl | rfl) <;> (right; (first | omega | (simp; done) | (simp; omega)))))))
            have dx := (hmw.cell (o + j) hbl (fun x => x)).trans (hcx j (.int .i64 x) (by rw [List.getElem?_map, ex]; rfl))
            have HEX := hide (show (la.map (Value.int .i64))[j]? = some (.int .i64 x) by rw [List.getElem?_map, ex]; rfl)
            have hbr : b < wr.heap.size := by have := hmw.size; omega
            clear ex hcx
            go_wp2_with fail
            (with_reducible refine (aat_int x w1.heap.size r p 400 _ _ j rfl _ (Own.keep0 ha hmj) hjp (by omega) HEX.out).mono ?_)
            rintro e w5 ⟨rfl, hbw5⟩
            have hzw5 := hbw5.size
            (try simp at hzw5)
            (try (have ltw50 : b < w5.heap.size := (by omega); have lcw50 := fun o => hbw5.cell (b := b) o (by first | omega | (simp; done) | (simp; omega)) (id); have lfw50 := fun o => hbw5.frozen (b := b) o (by first | omega | (simp; done) | (simp; omega)) (id)))
            skip
            go_wp2
            go_roundw
            case rel => exact ⟨j + 1, by go_num, by omega, (by repeat (first | with_reducible exact Mod.refl _ _ | with_reducible assumption | with_reducible refine Mod.alloc ?_ _ | with_reducible refine Mod.drew ?_ | with_reducible refine Mod.drewN ?_ _ | with_reducible refine Mod.setCell ?_ (by first | exact .inl rfl | (left; (try unfold from_); show _ ≤ _; first | omega | (simp; done) | (simp; omega)) | (right; first | omega | (simp; done) | (simp; omega))) _ | with_reducible refine Mod.call0 ?_ (by with_reducible assumption) | with_reducible refine Mod.call ?_ (by with_reducible assumption) (by first | (rintro _ rfl; first | exact .inl rfl | (right; (first | omega | (simp; done) | (simp; omega)))) | (rintro _ (rfl | rfl) <;> (right; (first | omega | (simp; done) | (simp; omega)))))))⟩
            case measure => simp [intOf] <;> omega
          · obtain ⟨wp, rfl⟩ : ∃ wp : World, wp = wr := ⟨_, rfl⟩
            go_wp2
            go_loopw [17, 18, 19] (fun s17 _ _ wx => ∃ (k : Nat), s17 = .int .i64 k ∧ k ≤ q ∧ Mod nowhere wo wx)
              (fun s17 _ _ _ => (300 - (intOf s17)).toNat)
            case atStart => exact ⟨0, rfl, Nat.zero_le _, hmj⟩
            case round =>
              obtain ⟨i, rfl, hi, hmi⟩ := hrel
              by_cases hiq : i < q
              · obtain ⟨b, o, rfl, hbl, hcx⟩ := HRb.out.form (by omega) (by omega)
                have ex : lb[i]? = some (lb[i]'(by have := HLb.out; omega)) := List.getElem?_eq_getElem (by have := HLb.out; omega)
                generalize lb[i]'(by have := HLb.out; omega) = x at ex
                have hmw : Mod nowhere w wr := (by repeat (first | with_reducible exact Mod.refl _ _ | with_reducible assumption | with_reducible refine Mod.alloc ?_ _ | with_reducible refine Mod.drew ?_ | with_reducible refine Mod.drewN ?_ _ | with_reducible refine Mod.setCell ?_ (by first | exact .inl rfl | (left; (try unfold from_); show _ ≤ _; first | omega | (simp; done) | (simp; omega)) | (right; first | omega | (simp; done) | (simp; omega))) _ | with_reducible refine Mod.call0 ?_ (by with_reducible assumption) | with_reducible refine Mod.call ?_ (by with_reducible assumption) (by first | (rintro _ rfl; first | exact .inl rfl | (right; (first | omega | (simp; done) | (simp; omega)))) | (rintro _ (rfl | rfl) <;> (right; (first | omega | (simp; done) | (simp; omega)))))))
                have dx := (hmw.cell (o + i) hbl (fun x => x)).trans (hcx i (.int .i64 x) (by rw [List.getElem?_map, ex]; rfl))
                have HEX := hide (show (lb.map (Value.int .i64))[i]? = some (.int .i64 x) by rw [List.getElem?_map, ex]; rfl)
                have hbr : b < wr.heap.size := by have := hmw.size; omega
                clear ex hcx
                go_wp2_with fail
                (with_reducible refine (aat_int x (w1.heap.size + 1) r' q 400 _ _ i rfl _ (Own.keep0 hb hmi) hiq (by omega) HEX.out).mono ?_)
                rintro e w5 ⟨rfl, hbw5⟩
                have hzw5 := hbw5.size
                (try simp at hzw5)
                (try (have ltw50 : b < w5.heap.size := (by omega); have lcw50 := fun o => hbw5.cell (b := b) o (by first | omega | (simp; done) | (simp; omega)) (id); have lfw50 := fun o => hbw5.frozen (b := b) o (by first | omega | (simp; done) | (simp; omega)) (id)))
                skip
                go_wp2
                go_roundw
                case rel => exact ⟨i + 1, by go_num, by omega, (by repeat (first | with_reducible exact Mod.refl _ _ | with_reducible assumption | with_reducible refine Mod.alloc ?_ _ | with_reducible refine Mod.drew ?_ | with_reducible refine Mod.drewN ?_ _ | with_reducible refine Mod.setCell ?_ (by first | exact .inl rfl | (left; (try unfold from_); show _ ≤ _; first | omega | (simp; done) | (simp; omega)) | (right; first | omega | (simp; done) | (simp; omega))) _ | with_reducible refine Mod.call0 ?_ (by with_reducible assumption) | with_reducible refine Mod.call ?_ (by with_reducible assumption) (by first | (rintro _ rfl; first | exact .inl rfl | (right; (first | omega | (simp; done) | (simp; omega)))) | (rintro _ (rfl | rfl) <;> (right; (first | omega | (simp; done) | (simp; omega)))))))⟩
                case measure => simp [intOf] <;> omega
              · go_wp2_with (first | (go_at_call 27; (with_reducible refine (alen_int w1.heap.size r p 400 _ _ (Own.keep0 ha hmi)).mono ?_); rintro e w' ⟨rfl, rfl⟩) | (go_at_call 27; (with_reducible refine (alen_int (w1.heap.size + 1) r' q 400 _ _ (Own.keep0 hb hmi)).mono ?_); rintro e w' ⟨rfl, rfl⟩) | (go_at_call 28; (with_reducible refine (aleft_int w1.heap.size r p 400 _ _ (Own.keep0 ha hmi) (by omega) (by omega)).mono ?_); rintro e w7 ⟨rfl, hbw7⟩; have hzw7 := hbw7.size; (try simp at hzw7); skip; skip))
                go_ret
                exact ⟨rfl, (by repeat (first | with_reducible exact Mod.refl _ _ | with_reducible assumption | with_reducible refine Mod.alloc ?_ _ | with_reducible refine Mod.drew ?_ | with_reducible refine Mod.drewN ?_ _ | with_reducible refine Mod.setCell ?_ (by first | exact .inl rfl | (left; (try unfold from_); show _ ≤ _; first | omega | (simp; done) | (simp; omega)) | (right; first | omega | (simp; done) | (simp; omega))) _ | with_reducible refine Mod.call0 ?_ (by with_reducible assumption) | with_reducible refine Mod.call ?_ (by with_reducible assumption) (by first | (rintro _ rfl; first | exact .inl rfl | (right; (first | omega | (simp; done) | (simp; omega)))) | (rintro _ (rfl | rfl) <;> (right; (first | omega | (simp; done) | (simp; omega)))))))⟩
end Go.Proofs.Ytkabgkkklegaoaa
