/- The law PaceMore, walked. -/
import Derived.Test.YtffeidjalphemaaPaceB
namespace Go.Proofs.Ytffeidjalphemaa
open Go.RowKit

def turnL (k L : Nat) : List Int := (List.range L).map fun (i : Nat) => ((i % k : Nat) : Int)
theorem turn_all : ∀ n, n < 6 → ∀ r, r < 20 → longM (turnL (1 + n) (2 * (1 + n) + r)) (1 + n) = n := by decide +kernel
theorem turn_long (n : Nat) (hn : n < 6) (r : Nat) (hr : r < 20) : longM (turnL (1 + n) (2 * (1 + n) + r)) (1 + n) = n := turn_all n hn r hr

set_option maxRecDepth 100000 in
set_option maxHeartbeats 8000000 in
theorem law_paceMore (A : Option Addr) (m c : Nat) (l : List Int) (nn ff more rounds : Int) (w : World) (hl : l.length = m) (hr : Reads w w.heap.size 1 A m (l.map (Value.int .i64))) (a0 : 0 ≤ nn) (a1 : nn ≤ 255) (b0 : 0 ≤ ff) (b1 : ff ≤ 255) (d0 : 0 ≤ more) (d1 : more ≤ 255) (k0 : 0 ≤ rounds) (k1 : rounds ≤ 255) :
    Calls Try.prog 7 #[.slice A m c, .int .u8 nn, .int .u8 ff, .int .u8 more, .int .u8 rounds] w
     fun en w' => en = .returned (.bool true) ∧ Mod nowhere w w' := by
  by_cases g0 : 200 < m
  · go_enter Try.func7, Try.ntmps7
    go_wp2_with fail
    (with_reducible refine (alive22_calls _).mono ?_)
    rintro e w1 ⟨rfl, hbw1⟩
    have hzw1 := hbw1.size
    (try simp at hzw1)
    skip
    skip
    go_wp2
    go_ret
    exact ⟨rfl, (by repeat (first | with_reducible exact Mod.refl _ _ | with_reducible assumption | with_reducible refine Mod.alloc ?_ _ | with_reducible refine Mod.drew ?_ | with_reducible refine Mod.drewN ?_ _ | with_reducible refine Mod.setCell ?_ (by first | exact .inl rfl | (left; (try unfold from_); show _ ≤ _; first | omega | (simp; done) | (simp; omega)) | (right; first | omega | (simp; done) | (simp; omega))) _ | with_reducible refine Mod.call0 ?_ (by with_reducible assumption) | with_reducible refine Mod.call ?_ (by with_reducible assumption) (by first | (rintro _ rfl; first | exact .inl rfl | (right; (first | omega | (simp; done) | (simp; omega)))) | (rintro _ (rfl | rfl) <;> (right; (first | omega | (simp; done) | (simp; omega)))))))⟩
  have HR := hide hr
  have HL := hide hl
  clear hr hl
  obtain ⟨i0, hi0, hz0, hz1, hz2⟩ := info_parts ainfo_int
  obtain ⟨n, hn⟩ : ∃ n : Nat, nn % 6 = (n : Int) := ⟨(nn % 6).toNat, by omega⟩
  obtain ⟨g, hg⟩ : ∃ g : Nat, ff % 40 = (g : Int) := ⟨(ff % 40).toNat, by omega⟩
  obtain ⟨r, hrr⟩ : ∃ r : Nat, rounds % 20 = (r : Int) := ⟨(rounds % 20).toNat, by omega⟩
  have hn6 : n < 6 := by omega
  have hr20 : r < 20 := by omega
  have hg40 : g < 40 := by omega
  go_enter Try.func7, Try.ntmps7
  go_wp2_with fail
  (with_reducible refine (alive22_calls _).mono ?_)
  rintro e w1 ⟨rfl, hbw1⟩
  have hzw1 := hbw1.size
  (try simp at hzw1)
  skip
  skip
  have y1 : Mod nowhere w w1 := (by repeat (first | with_reducible exact Mod.refl _ _ | with_reducible assumption | with_reducible refine Mod.alloc ?_ _ | with_reducible refine Mod.drew ?_ | with_reducible refine Mod.drewN ?_ _ | with_reducible refine Mod.setCell ?_ (by first | exact .inl rfl | (left; (try unfold from_); show _ ≤ _; first | omega | (simp; done) | (simp; omega)) | (right; first | omega | (simp; done) | (simp; omega))) _ | with_reducible refine Mod.call0 ?_ (by with_reducible assumption) | with_reducible refine Mod.call ?_ (by with_reducible assumption) (by first | (rintro _ rfl; first | exact .inl rfl | (right; (first | omega | (simp; done) | (simp; omega)))) | (rintro _ (rfl | rfl) <;> (right; (first | omega | (simp; done) | (simp; omega)))))))
  go_wp2_with fail
  (with_reducible refine (fair_callsZ A m c w.heap.size (1 + n) l (1 + (n : Int)) (1 + (g : Int)) w1 (by omega) (HR.out.keepMod (Nat.le_refl _) y1) y1.size HL.out (by omega) (by omega) (by omega)).mono ?_)
  rintro e2 w2 ⟨rfl, hm2⟩
  have y2 : Mod nowhere w w2 := y1.call0 hm2
  by_cases hP : 1 ≤ 1 + (g : Int) ∧ ((m : Int) < 1 + (g : Int) ∨ (longM l (1 + n) : Int) < 1 + (g : Int))
  · rw [decide_eq_true hP]
    have HP := hide hP
    clear hP
    go_wp2_with fail
    (with_reducible refine (fair_callsZ A m c w.heap.size (1 + n) l (1 + (n : Int)) (1 + (g : Int) + more) w2 (by omega) (HR.out.keepMod (Nat.le_refl _) y2) y2.size HL.out (by omega) (by omega) (by omega)).mono ?_)
    rintro e3 w3 ⟨rfl, hm3⟩
    rw [decide_eq_true (show 1 ≤ 1 + (g : Int) + more ∧ ((m : Int) < 1 + (g : Int) + more ∨ (longM l (1 + n) : Int) < 1 + (g : Int) + more) from by have := HP.out; omega)]
    have y3 : Mod nowhere w w3 := y2.call0 hm3
    go_wp2_with fail
    go_loopw [13, 14] (fun s13 s14 wx => ∃ (i : Nat), s14 = .int .i64 i ∧ i ≤ 2 * (1 + n) + r ∧ LocRow wx w.heap.size 3 1 s13 i ((turnL (1 + n) i).map (Value.int .i64)) ∧ Mod nowhere w wx) (fun _ s14 _ => (300 - (intOf s14)).toNat)
    case atStart => exact ⟨0, rfl, Nat.zero_le _, LocRow.nil _ _ _ _, y3⟩
    case round =>
      obtain ⟨i, rfl, hi, hL, hmr⟩ := hrel
      have hsz := hmr.size
      by_cases hlt : i < 2 * (1 + n) + r
      · have hlt' : (i : Int) < 2 * (1 + (n : Int)) + (r : Int) := by omega
        obtain ⟨v, hv⟩ : ∃ v, v = i % (1 + n) := ⟨_, rfl⟩
        have hrem : (i : Int) % (1 + (n : Int)) = (v : Int) := by
          rw [hv, show (1 + (n : Int)) = ((1 + n : Nat) : Int) by omega]; rfl
        have hsu : turnL (1 + n) (i + 1) = turnL (1 + n) i ++ [(v : Int)] := by rw [hv]; unfold turnL; rw [List.range_succ, List.map_append]; rfl
        have HSU := hide hsu
        have HLL := hide hL
        clear hv hsu hL
        go_wp2_with (at_builtin; refine wpList_append_loc rfl _ _ _ rfl 3 i0 (.int .i64 0) Try.underlying22 hi0 hz0 hz1 hz2 rfl w.heap.size u13 i ((turnL (1 + n) i).map (Value.int .i64)) rfl (HLL.out.far (S := nowhere) (by repeat (first | with_reducible exact Mod.refl _ _ | with_reducible assumption | with_reducible refine Mod.alloc ?_ _ | with_reducible refine Mod.drew ?_ | with_reducible refine Mod.drewN ?_ _ | with_reducible refine Mod.setCell ?_ (by first | exact .inl rfl | (left; (try unfold from_); show _ ≤ _; first | omega | (simp; done) | (simp; omega)) | (right; first | omega | (simp; done) | (simp; omega))) _ | with_reducible refine Mod.call0 ?_ (by with_reducible assumption) | with_reducible refine Mod.call ?_ (by with_reducible assumption) (by first | (rintro _ rfl; first | exact .inl rfl | (right; (first | omega | (simp; done) | (simp; omega)))) | (rintro _ (rfl | rfl) <;> (right; (first | omega | (simp; done) | (simp; omega))))))) (fun _ _ h => h)) wr.heap.size (.int .i64 (v : Int)) rfl (by repeat (first | with_reducible assumption | with_reducible apply Blk.new | with_reducible exact Blk.newAt (by first | rfl | (simp; done) | (simp; omega)) | with_reducible apply Blk.alloc | with_reducible apply Blk.drew | with_reducible apply Blk.drewN | with_reducible apply Blk.keep0 (hm := by with_reducible assumption) | with_reducible apply Blk.keep (hm := by with_reducible assumption) (hg := by first | omega | exact not_two (by omega) (by omega)) | with_reducible apply Blk.far (hp := by first | omega | (simp; done) | (simp; omega)) | with_reducible apply Blk.set1 | rfl)) rfl (by omega) (by simp; omega) ?_; rintro q1 cap1 w9 hq1 mq1 dq1 gq1 lq1)
        go_roundw
        case rel => exact ⟨i + 1, by go_num, by omega, by rw [HSU.out, List.map_append]; exact hq1, (hmr.alloc _).call mq1 (fun b e => .inr (HLL.out.blk b e).1)⟩
        case measure => simp [intOf] <;> omega
      · obtain rfl : i = 2 * (1 + n) + r := by omega
        have hlong := turn_long n hn6 r hr20
        have htl : (turnL (1 + n) (2 * (1 + n) + r)).length = 2 * (1 + n) + r := by simp [turnL]
        have HLG := hide hlong
        have HTL := hide htl
        generalize turnL (1 + n) (2 * (1 + n) + r) = tl at hL HLG HTL
        obtain ⟨A2, c2, rfl, hrd2⟩ := hL.reads
        have HRD := hide hrd2
        clear hlong htl hL hrd2
        go_wp2_with fail
        (with_reducible refine (fair_callsZ A2 (2 * (1 + n) + r) c2 wr.heap.size (1 + n) tl (1 + (n : Int)) (1 + (n : Int)) wr (by omega) HRD.out (Nat.le_refl _) HTL.out (by omega) (by omega) (by omega)).mono ?_)
        rintro e5 w5 ⟨rfl, hm5⟩
        rw [decide_eq_true (show 1 ≤ 1 + (n : Int) ∧ (((2 * (1 + n) + r : Nat) : Int) < 1 + (n : Int) ∨ (longM tl (1 + n) : Int) < 1 + (n : Int)) from ⟨by omega, .inr (by rw [HLG.out]; omega)⟩)]
        by_cases hn0 : n = 0
        · subst hn0
          go_wp2_with fail
          (with_reducible refine (longest_callsZ A2 (2 * (1 + 0) + r) c2 wr.heap.size (1 + 0) tl 1 w5 (by omega) (HRD.out.keepMod (Nat.le_refl _) hm5) hm5.size HTL.out (by omega) (by omega) (by omega)).mono ?_)
          rintro e6 w6 ⟨rfl, hm6⟩
          rw [HLG.out]
          go_wp2
          go_ret
          exact ⟨by simp, (hmr.call0 hm5).call0 hm6⟩
        · have hn1 : ((1 + (n : Int)) == 1) = false := by simp; omega
          go_wp2_with fail
          (with_reducible refine (fair_callsZ A2 (2 * (1 + n) + r) c2 wr.heap.size (1 + n) tl (1 + (n : Int)) (1 + (n : Int) - 1) w5 (by omega) (HRD.out.keepMod (Nat.le_refl _) hm5) hm5.size HTL.out (by omega) (by omega) (by omega)).mono ?_)
          rintro e6 w6 ⟨rfl, hm6⟩
          rw [decide_eq_false (show ¬ (1 ≤ 1 + (n : Int) - 1 ∧ (((2 * (1 + n) + r : Nat) : Int) < 1 + (n : Int) - 1 ∨ (longM tl (1 + n) : Int) < 1 + (n : Int) - 1)) from by rw [HLG.out]; omega)]
          go_wp2_with fail
          (with_reducible refine (longest_callsZ A2 (2 * (1 + n) + r) c2 wr.heap.size (1 + n) tl (1 + (n : Int)) w6 (by omega) ((HRD.out.keepMod (Nat.le_refl _) hm5).keepMod hm5.size hm6) (Nat.le_trans hm5.size hm6.size) HTL.out (by omega) (by omega) (by omega)).mono ?_)
          rintro e7 w7 ⟨rfl, hm7⟩
          rw [HLG.out]
          go_wp2
          go_ret
          exact ⟨by simp; omega, ((hmr.call0 hm5).call0 hm6).call0 hm7⟩
  · rw [decide_eq_false hP]
    clear hP
    go_wp2_with fail
    go_loopw [13, 14] (fun s13 s14 wx => ∃ (i : Nat), s14 = .int .i64 i ∧ i ≤ 2 * (1 + n) + r ∧ LocRow wx w.heap.size 3 1 s13 i ((turnL (1 + n) i).map (Value.int .i64)) ∧ Mod nowhere w wx) (fun _ s14 _ => (300 - (intOf s14)).toNat)
    case atStart => exact ⟨0, rfl, Nat.zero_le _, LocRow.nil _ _ _ _, y2⟩
    case round =>
      obtain ⟨i, rfl, hi, hL, hmr⟩ := hrel
      have hsz := hmr.size
      by_cases hlt : i < 2 * (1 + n) + r
      · have hlt' : (i : Int) < 2 * (1 + (n : Int)) + (r : Int) := by omega
        obtain ⟨v, hv⟩ : ∃ v, v = i % (1 + n) := ⟨_, rfl⟩
        have hrem : (i : Int) % (1 + (n : Int)) = (v : Int) := by
          rw [hv, show (1 + (n : Int)) = ((1 + n : Nat) : Int) by omega]; rfl
        have hsu : turnL (1 + n) (i + 1) = turnL (1 + n) i ++ [(v : Int)] := by rw [hv]; unfold turnL; rw [List.range_succ, List.map_append]; rfl
        have HSU := hide hsu
        have HLL := hide hL
        clear hv hsu hL
        go_wp2_with (at_builtin; refine wpList_append_loc rfl _ _ _ rfl 3 i0 (.int .i64 0) Try.underlying22 hi0 hz0 hz1 hz2 rfl w.heap.size u13 i ((turnL (1 + n) i).map (Value.int .i64)) rfl (HLL.out.far (S := nowhere) (by repeat (first | with_reducible exact Mod.refl _ _ | with_reducible assumption | with_reducible refine Mod.alloc ?_ _ | with_reducible refine Mod.drew ?_ | with_reducible refine Mod.drewN ?_ _ | with_reducible refine Mod.setCell ?_ (by first | exact .inl rfl | (left; (try unfold from_); show _ ≤ _; first | omega | (simp; done) | (simp; omega)) | (right; first | omega | (simp; done) | (simp; omega))) _ | with_reducible refine Mod.call0 ?_ (by with_reducible assumption) | with_reducible refine Mod.call ?_ (by with_reducible assumption) (by first | (rintro _ rfl; first | exact .inl rfl | (right; (first | omega | (simp; done) | (simp; omega)))) | (rintro _ (rfl | rfl) <;> (right; (first | omega | (simp; done) | (simp; omega))))))) (fun _ _ h => h)) wr.heap.size (.int .i64 (v : Int)) rfl (by repeat (first | with_reducible assumption | with_reducible apply Blk.new | with_reducible exact Blk.newAt (by first | rfl | (simp; done) | (simp; omega)) | with_reducible apply Blk.alloc | with_reducible apply Blk.drew | with_reducible apply Blk.drewN | with_reducible apply Blk.keep0 (hm := by with_reducible assumption) | with_reducible apply Blk.keep (hm := by with_reducible assumption) (hg := by first | omega | exact not_two (by omega) (by omega)) | with_reducible apply Blk.far (hp := by first | omega | (simp; done) | (simp; omega)) | with_reducible apply Blk.set1 | rfl)) rfl (by omega) (by simp; omega) ?_; rintro q1 cap1 w9 hq1 mq1 dq1 gq1 lq1)
        go_roundw
        case rel => exact ⟨i + 1, by go_num, by omega, by rw [HSU.out, List.map_append]; exact hq1, (hmr.alloc _).call mq1 (fun b e => .inr (HLL.out.blk b e).1)⟩
        case measure => simp [intOf] <;> omega
      · obtain rfl : i = 2 * (1 + n) + r := by omega
        have hlong := turn_long n hn6 r hr20
        have htl : (turnL (1 + n) (2 * (1 + n) + r)).length = 2 * (1 + n) + r := by simp [turnL]
        have HLG := hide hlong
        have HTL := hide htl
        generalize turnL (1 + n) (2 * (1 + n) + r) = tl at hL HLG HTL
        obtain ⟨A2, c2, rfl, hrd2⟩ := hL.reads
        have HRD := hide hrd2
        clear hlong htl hL hrd2
        go_wp2_with fail
        (with_reducible refine (fair_callsZ A2 (2 * (1 + n) + r) c2 wr.heap.size (1 + n) tl (1 + (n : Int)) (1 + (n : Int)) wr (by omega) HRD.out (Nat.le_refl _) HTL.out (by omega) (by omega) (by omega)).mono ?_)
        rintro e5 w5 ⟨rfl, hm5⟩
        rw [decide_eq_true (show 1 ≤ 1 + (n : Int) ∧ (((2 * (1 + n) + r : Nat) : Int) < 1 + (n : Int) ∨ (longM tl (1 + n) : Int) < 1 + (n : Int)) from ⟨by omega, .inr (by rw [HLG.out]; omega)⟩)]
        by_cases hn0 : n = 0
        · subst hn0
          go_wp2_with fail
          (with_reducible refine (longest_callsZ A2 (2 * (1 + 0) + r) c2 wr.heap.size (1 + 0) tl 1 w5 (by omega) (HRD.out.keepMod (Nat.le_refl _) hm5) hm5.size HTL.out (by omega) (by omega) (by omega)).mono ?_)
          rintro e6 w6 ⟨rfl, hm6⟩
          rw [HLG.out]
          go_wp2
          go_ret
          exact ⟨by simp, (hmr.call0 hm5).call0 hm6⟩
        · have hn1 : ((1 + (n : Int)) == 1) = false := by simp; omega
          go_wp2_with fail
          (with_reducible refine (fair_callsZ A2 (2 * (1 + n) + r) c2 wr.heap.size (1 + n) tl (1 + (n : Int)) (1 + (n : Int) - 1) w5 (by omega) (HRD.out.keepMod (Nat.le_refl _) hm5) hm5.size HTL.out (by omega) (by omega) (by omega)).mono ?_)
          rintro e6 w6 ⟨rfl, hm6⟩
          rw [decide_eq_false (show ¬ (1 ≤ 1 + (n : Int) - 1 ∧ (((2 * (1 + n) + r : Nat) : Int) < 1 + (n : Int) - 1 ∨ (longM tl (1 + n) : Int) < 1 + (n : Int) - 1)) from by rw [HLG.out]; omega)]
          go_wp2_with fail
          (with_reducible refine (longest_callsZ A2 (2 * (1 + n) + r) c2 wr.heap.size (1 + n) tl (1 + (n : Int)) w6 (by omega) ((HRD.out.keepMod (Nat.le_refl _) hm5).keepMod hm5.size hm6) (Nat.le_trans hm5.size hm6.size) HTL.out (by omega) (by omega) (by omega)).mono ?_)
          rintro e7 w7 ⟨rfl, hm7⟩
          rw [HLG.out]
          go_wp2
          go_ret
          exact ⟨by simp; omega, ((hmr.call0 hm5).call0 hm6).call0 hm7⟩
end Go.Proofs.Ytffeidjalphemaa
