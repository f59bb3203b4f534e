/- The law PaceFair, walked. -/
import Derived.Test.YtffeidjalphemaaPaceB
namespace Go.Proofs.Ytffeidjalphemaa
open Go.RowKit

theorem wtL_take_le (t : Int) (l : List Int) (k : Nat) : (wtL t (l.take k)).1 ≤ (wtL t l).2 ∨ k = 0 ∧ (wtL t (l.take k)).1 = 0 := by
  by_cases h0 : k = 0
  · right; subst h0; simp [wtL]
  left
  have key : ∀ j, (wtL t (l.take j)).1 ≤ (wtL t (l.take j)).2 ∧ (wtL t (l.take j)).2 ≤ (wtL t l).2 := by
    intro j
    constructor
    · refine list_snoc_ind (fun l => (wtL t l).1 ≤ (wtL t l).2) (Nat.le_refl _) (fun l x ih => ?_) _
      rw [wtL_snoc]; simp only [wtS]; omega
    · have : ∀ m, (wtL t (l.take j)).2 ≤ (wtL t (l.take j ++ m)).2 := fun m => by
        refine list_snoc_ind (fun m => (wtL t (l.take j)).2 ≤ (wtL t (l.take j ++ m)).2) (by simp) (fun m x ih => ?_) m
        rw [← List.append_assoc, wtL_snoc]; simp only [wtS]; omega
      have h := this (l.drop j)
      rwa [List.take_append_drop] at h
  have := key k
  omega

set_option maxRecDepth 100000 in
set_option maxHeartbeats 8000000 in
theorem law_paceFair (A : Option Addr) (m c : Nat) (l : List Int) (nn more : Int) (w : World) (hl : l.length = m) (hr : Reads w w.heap.size 1 A m (l.map (Value.int .i64))) (a0 : 0 ≤ nn) (a1 : nn ≤ 255) (b0 : 0 ≤ more) (b1 : more ≤ 255) :
    Calls Try.prog 5 #[.slice A m c, .int .u8 nn, .int .u8 more] w
     fun en w' => en = .returned (.bool true) ∧ Mod nowhere w w' := by
  by_cases g0 : 400 < m
  · go_enter Try.func5, Try.ntmps5
    go_wp2_with fail
    (with_reducible refine (alive22_calls _).mono ?_)
    rintro e w1 ⟨rfl, hbw1⟩
    have hzw1 := hbw1.size
    (try simp at hzw1)
    skip
    skip
    go_wp2
    go_ret
    exact ⟨rfl, (by repeat (first | with_reducible exact Mod.refl _ _ | with_reducible assumption | with_reducible refine Mod.alloc ?_ _ | with_reducible refine Mod.drew ?_ | with_reducible refine Mod.drewN ?_ _ | with_reducible refine Mod.setCell ?_ (by first | exact .inl rfl | (left; (try unfold from_); show _ ≤ _; first | omega | (simp; done) | (simp; omega)) | (right; first | omega | (simp; done) | (simp; omega))) _ | with_reducible refine Mod.call0 ?_ (by with_reducible assumption) | with_reducible refine Mod.call ?_ (by with_reducible assumption) (by first | (rintro _ rfl; first | exact .inl rfl | (right; (first | omega | (simp; done) | (simp; omega)))) | (rintro _ (rfl | rfl) <;> (right; (first | omega | (simp; done) | (simp; omega)))))))⟩
  have HR := hide hr
  have HL := hide hl
  clear hr hl
  obtain ⟨n, hn⟩ : ∃ n : Nat, nn % 6 = (n : Int) := ⟨(nn % 6).toNat, by omega⟩
  obtain ⟨e, he⟩ : ∃ e : Nat, more % 20 = (e : Int) := ⟨(more % 20).toNat, by omega⟩
  have hn6 : n < 6 := by omega
  have he20 : e < 20 := by omega
  go_enter Try.func5, Try.ntmps5
  go_wp2_with fail
  (with_reducible refine (alive22_calls _).mono ?_)
  rintro e w1 ⟨rfl, hbw1⟩
  have hzw1 := hbw1.size
  (try simp at hzw1)
  skip
  skip
  have y1 : Mod nowhere w w1 := (by repeat (first | with_reducible exact Mod.refl _ _ | with_reducible assumption | with_reducible refine Mod.alloc ?_ _ | with_reducible refine Mod.drew ?_ | with_reducible refine Mod.drewN ?_ _ | with_reducible refine Mod.setCell ?_ (by first | exact .inl rfl | (left; (try unfold from_); show _ ≤ _; first | omega | (simp; done) | (simp; omega)) | (right; first | omega | (simp; done) | (simp; omega))) _ | with_reducible refine Mod.call0 ?_ (by with_reducible assumption) | with_reducible refine Mod.call ?_ (by with_reducible assumption) (by first | (rintro _ rfl; first | exact .inl rfl | (right; (first | omega | (simp; done) | (simp; omega)))) | (rintro _ (rfl | rfl) <;> (right; (first | omega | (simp; done) | (simp; omega)))))))
  go_wp2_with fail
  (with_reducible refine (make_callsZ A m c w.heap.size (1 + n) l (1 + (n : Int)) (1 + (n : Int) + (e : Int)) w1 (by omega) (HR.out.keepMod (Nat.le_refl _) y1) y1.size HL.out (by omega) (by omega) (by omega) (by omega) (by omega)).mono ?_)
  rintro e2 w2 ⟨z2, rfl, hz2, hm2⟩
  have y2 : Mod nowhere w w2 := y1.call0 hm2
  have hfair := stM_fair (1 + (n : Int) + (e : Int)) (1 + n) (by omega) (by omega) l
  have HRG := hide (stM_range (1 + (n : Int) + (e : Int)) (1 + n) (by omega) l)
  have HWT := hide (fun t ht => (stM_wait (1 + (n : Int) + (e : Int)) (1 + n) (by omega) (by omega) l t ht).2)
  have HLEN := hide ((stM_len (1 + (n : Int) + (e : Int)) (1 + n) l).2.trans HL.out)
  generalize (stM (1 + (n : Int) + (e : Int)) (1 + n) l).2 = out at hz2 hfair HRG HWT HLEN
  obtain ⟨A2, c2, rfl, hrd2⟩ := hz2.reads
  have HRD := hide hrd2
  have HFA := hide hfair
  clear hz2 hrd2 hfair
  go_wp2_with fail
  (with_reducible refine (fair_callsZ A2 m c2 w2.heap.size (1 + n) out (1 + (n : Int)) (1 + (n : Int) + (e : Int)) w2 (by omega) HRD.out (Nat.le_refl _) HLEN.out (by omega) (by omega) (by omega)).mono ?_)
  rintro e3 w3 ⟨rfl, hm3⟩
  rw [decide_eq_true (show 1 ≤ 1 + (n : Int) + (e : Int) ∧ ((m : Int) < 1 + (n : Int) + (e : Int) ∨ (longM out (1 + n) : Int) < 1 + (n : Int) + (e : Int)) from ⟨by omega, .inr HFA.out⟩)]
  have y3 : Mod nowhere w w3 := y2.call0 hm3
  go_wp2_with fail
  go_loopw [11, 12, 13] (fun s11 _ _ wx => ∃ (t : Nat), s11 = .int .i64 t ∧ t ≤ 1 + n ∧ Mod nowhere w2 wx) (fun s11 _ _ _ => (300 - (intOf s11)).toNat)
  case atStart => exact ⟨0, rfl, Nat.zero_le _, hm3⟩
  case round =>
    obtain ⟨t, rfl, ht, hmr⟩ := hrel
    by_cases hlt : t < 1 + n
    · have hlt' : (t : Int) < 1 + (n : Int) := by omega
      go_wp2_with fail
      go_loopw [12, 13] (fun s12 s13 wx => ∃ (i : Nat), s13 = .int .i64 i ∧ i ≤ m ∧ s12 = .int .i64 (wtL (t : Int) (out.take i)).1 ∧ Mod nowhere w2 wx) (fun _ s13 _ => (2000 - (intOf s13)).toNat)
      case atStart => exact ⟨0, rfl, Nat.zero_le _, rfl, hmr⟩
      case round =>
        clear hmr
        obtain ⟨i, rfl, hi, rfl, hmr⟩ := hrel
        by_cases him : i < m
        · obtain ⟨b, o, hAe, hb, hc⟩ := reads_cell HRD.out (Nat.le_refl _) (hmr.mono fun _ x => x.elim) him
          subst hAe
          obtain ⟨x, hx⟩ : ∃ x, out[i]? = some x := ⟨_, List.getElem?_eq_getElem (show i < out.length by have := HLEN.out; omega)⟩
          have hrg := HRG.out x (List.mem_of_getElem? hx)
          have htk : out.take (i + 1) = out.take i ++ [x] := by rw [List.take_add_one, hx]; rfl
          rw [show out.getD i 0 = x by rw [List.getD_eq_getElem?_getD, hx]; rfl] at hc
          have hle := (wtL_le (t : Int) (out.take i)).1
          have hti : (out.take i).length = i := by rw [List.length_take]; have := HLEN.out; omega
          rw [hti] at hle
          have hw1 : wtL (t : Int) (out.take (i + 1)) = wtS (t : Int) (wtL (t : Int) (out.take i)) x := by rw [htk, wtL_snoc]
          have hnext : ((wtL (t : Int) (out.take (i + 1))).1 : Int) < 1 + (n : Int) + (e : Int) := by
            have h1 := HWT.out t hlt
            rcases wtL_take_le (t : Int) out (i + 1) with h2 | h2 <;> omega
          rw [hw1] at hnext
          have HW1 := hide hw1
          generalize hwa : (wtL (t : Int) (out.take i)).1 = wa at *
          have HWA := hide hwa
          simp only [wtS, hwa] at hnext
          clear hwa hw1 htk hx hti
          by_cases ex : x = (t : Int)
          · subst ex
            clear hnext
            go_wp2
            go_roundw
            case rel =>
              refine ⟨i + 1, by go_num, by omega, ?_, hmr⟩
              rw [HW1.out]; simp [wtS]
            case measure => simp [intOf] <;> omega
          · have ex' : (x == (t : Int)) = false := by simp [ex]
            rw [if_neg ex] at hnext
            have hnx : (wa : Int) + 1 < 1 + (n : Int) + (e : Int) := by omega
            clear hnext
            go_wp2
            go_roundw
            case rel =>
              refine ⟨i + 1, by go_num, by omega, ?_, hmr⟩
              rw [HW1.out]; simp [wtS, ex, HWA.out]
            case measure => simp [intOf] <;> omega
        · obtain rfl : m = i := by omega
          go_wp2
          exact ⟨⟨t + 1, by go_num, by omega, hmr⟩, by simp [intOf] <;> omega⟩
    · obtain rfl : t = 1 + n := by omega
      go_wp2
      go_ret
      exact ⟨rfl, y2.call0 hmr⟩
end Go.Proofs.Ytffeidjalphemaa
