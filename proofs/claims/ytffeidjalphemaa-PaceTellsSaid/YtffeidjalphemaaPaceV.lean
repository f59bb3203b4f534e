/- The document's Fair, walked; the law PaceTells. -/
import Derived.Test.YtffeidjalphemaaPaceU
namespace Go.Proofs.Ytffeidjalphemaa
open Go.RowKit

theorem NoT.less {l : List Int} {t : Int} {i d e : Nat} (h : NoT l t i d) (he : e ≤ d) : NoT l t i e := ⟨by have := h.1; omega, fun j a b => h.2 j a (by omega)⟩
set_option maxRecDepth 100000 in
set_option maxHeartbeats 4000000 in
theorem reffair_calls (A : Option Addr) (m c B n f : Nat) (l : List Int) (w : World) (hr : Reads w B 1 A m (l.map (Value.int .i64))) (hB : B ≤ w.heap.size) (hl : l.length = m) (hm : m ≤ 1000) (h6 : n ≤ 6) (hf1 : 1 ≤ f) (hf2 : f ≤ 1000) :
    Calls Try.prog 13 #[.slice A m c, .int .i64 n, .int .i64 f] w fun e w' => e = .returned (.bool (decide (longM l n < f))) ∧ Mod nowhere w w' := by
  have HR := hide hr
  have HL := hide hl
  clear hr hl
  go_enter Try.func13, Try.ntmps13
  go_wp2_with fail
  go_loopw [7, 8, 9, 10] (fun s7 _ _ _ wx => ∃ (i : Nat), s7 = .int .i64 i ∧ i ≤ m ∧ (∀ i', i' < i → ∀ t' : Nat, t' < n → ¬ NoT l (t' : Int) i' f) ∧ Mod nowhere w wx) (fun s7 _ _ _ _ => (2000 - (intOf s7)).toNat)
  case atStart => exact ⟨0, rfl, Nat.zero_le _, fun i' h => absurd h (by omega), Mod.refl _ _⟩
  case round =>
    obtain ⟨i, rfl, hi, hno, hmr⟩ := hrel
    have HNO := hide hno
    clear hno
    by_cases hif : i + f ≤ m
    · have hif' : (i : Int) + (f : Int) ≤ (m : Int) := by omega
      go_wp2_with fail
      go_loopw [8, 9, 10] (fun s8 _ _ wx => ∃ (t : Nat), s8 = .int .i64 t ∧ t ≤ n ∧ (∀ t' : Nat, t' < t → ¬ NoT l (t' : Int) i f) ∧ Mod nowhere w wx) (fun s8 _ _ _ => (300 - (intOf s8)).toNat)
      case atStart => exact ⟨0, rfl, Nat.zero_le _, fun t' h => absurd h (by omega), hmr⟩
      case round =>
        clear hmr
        obtain ⟨t, rfl, ht, hnt, hmr⟩ := hrel
        have HNT := hide hnt
        clear hnt
        by_cases htn : t < n
        · have htn' : (t : Int) < (n : Int) := by omega
          go_wp2_with fail
          go_loopw [9, 10] (fun s9 s10 wx => ∃ (k : Nat) (nb : Bool), s10 = .int .i64 k ∧ i ≤ k ∧ k ≤ i + f ∧ s9 = .bool nb ∧ (nb = false ↔ NoT l (t : Int) i (k - i)) ∧ Mod nowhere w wx) (fun _ s10 _ => (4000 - (intOf s10)).toNat)
          case atStart => exact ⟨i, false, rfl, Nat.le_refl _, by omega, rfl, ⟨fun _ => ⟨by rw [HL.out]; omega, fun j a b => by omega⟩, fun _ => rfl⟩, hmr⟩
          case round =>
            clear hmr
            obtain ⟨k, nb, rfl, hik, hkf, rfl, hnb, hmr⟩ := hrel
            have HNB := hide hnb
            clear hnb
            by_cases hk : k < i + f
            · have hk' : (k : Int) < (i : Int) + (f : Int) := by omega
              have hkm : k < m := by omega
              cases nb with
              | true =>
                have hn : ¬ NoT l (t : Int) i (k + 1 - i) := fun h => by have := HNB.out.2 (h.less (by omega)); cases this
                have HN := hide hn
                clear hn
                go_wp2
                go_roundw
                case rel => exact ⟨k + 1, true, by go_num, by omega, by omega, rfl, ⟨fun h => (by cases h), fun h => absurd h HN.out⟩, hmr⟩
                case measure => simp [intOf] <;> omega
              | false =>
                have hold := HNB.out.1 rfl
                have HO := hide hold
                clear hold
                obtain ⟨b, o, hAe, hb, hc⟩ := reads_cell HR.out hB (hmr.mono fun _ x => x.elim) hkm
                subst hAe
                by_cases e : l.getD k 0 = (t : Int)
                · have HE := hide e
                  rw [e] at hc
                  clear e
                  go_wp2
                  go_roundw
                  case rel => exact ⟨k + 1, true, by go_num, by omega, by omega, rfl, ⟨fun h => (by cases h), fun h => absurd HE.out (h.2 k hik (by omega))⟩, hmr⟩
                  case measure => simp [intOf] <;> omega
                · have e' : (l.getD k 0 == (t : Int)) = false := beq_eq_false_iff_ne.2 e
                  have HE := hide e
                  clear e
                  generalize hgv : l.getD k 0 = gv at hc e' HE
                  have HGV := hide hgv
                  clear hgv
                  go_wp2
                  go_roundw
                  case rel => exact ⟨k + 1, false, by go_num, by omega, by omega, rfl, ⟨fun _ => HO.out.grow hik (by rw [HL.out]; exact hkm) (by rw [HGV.out]; exact HE.out), fun _ => rfl⟩, hmr⟩
                  case measure => simp [intOf] <;> omega
            · obtain rfl : k = i + f := by omega
              have hkk : i + f - i = f := by omega
              rw [hkk] at HNB
              cases nb with
              | true =>
                have hn : ¬ NoT l (t : Int) i f := fun h => by have := HNB.out.2 h; cases this
                have HN := hide hn
                clear hn hkk
                go_wp2
                go_roundw
                case rel => exact ⟨t + 1, by go_num, by omega, fun t' h => by
                  by_cases e : t' = t
                  · subst e; exact HN.out
                  · exact HNT.out t' (by omega), hmr⟩
                case measure => simp [intOf] <;> omega
              | false =>
                have hge : ¬ longM l n < f := fun h => by
                  have := (longM_char l n f).2 (.inr ⟨t, htn, i, HNB.out.1 rfl⟩)
                  omega
                have HG := hide hge
                clear hge hkk
                go_wp2
                go_ret
                exact ⟨by rw [decide_eq_false HG.out]; rfl, hmr⟩
        · obtain rfl : n = t := by omega
          clear htn
          go_wp2
          go_roundw
          case rel => exact ⟨i + 1, by go_num, by omega, fun i' h t' ht' => by
            by_cases e : i' = i
            · subst e; exact HNT.out t' ht'
            · exact HNO.out i' (by omega) t' ht', hmr⟩
          case measure => simp [intOf] <;> omega
    · have hif' : ¬ (i : Int) + (f : Int) ≤ (m : Int) := by omega
      have hlt : longM l n < f := by
        by_cases h : longM l n < f
        · exact h
        · rcases (longM_char l n f).1 (by omega) with h0 | ⟨t, ht, i', hn⟩
          · omega
          · have h1 := hn.1
            rw [HL.out] at h1
            exact absurd hn (HNO.out i' (by omega) t ht)
      have HG := hide hlt
      clear hlt hif
      go_wp2
      go_ret
      exact ⟨by rw [decide_eq_true HG.out]; rfl, hmr⟩
theorem reflong_callsZ (A : Option Addr) (m c B n : Nat) (l : List Int) (nx : Int) (w : World) (hnx : nx = n) (hr : Reads w B 1 A m (l.map (Value.int .i64))) (hB : B ≤ w.heap.size) (hl : l.length = m) (hm : m ≤ 1000) (h6 : n ≤ 6) :
    Calls Try.prog 12 #[.slice A m c, .int .i64 nx] w fun e w' => e = .returned (.int .i64 (longM l n)) ∧ Mod nowhere w w' := by
  subst hnx; exact reflong_calls A m c B n l w hr hB hl hm h6
theorem reffair_callsZ (A : Option Addr) (m c B n f : Nat) (l : List Int) (nx fx : Int) (w : World) (hnx : nx = n) (hfx : fx = f) (hr : Reads w B 1 A m (l.map (Value.int .i64))) (hB : B ≤ w.heap.size) (hl : l.length = m) (hm : m ≤ 1000) (h6 : n ≤ 6) (hf1 : 1 ≤ f) (hf2 : f ≤ 1000) :
    Calls Try.prog 13 #[.slice A m c, .int .i64 nx, .int .i64 fx] w fun e w' => e = .returned (.bool (decide (longM l n < f))) ∧ Mod nowhere w w' := by
  subst hnx hfx; exact reffair_calls A m c B n f l w hr hB hl hm h6 hf1 hf2

set_option maxRecDepth 100000 in
set_option maxHeartbeats 8000000 in
theorem law_paceTells (A : Option Addr) (m c : Nat) (l : List Int) (nx f : Int) (w : World) (hl : l.length = m) (hr : Reads w w.heap.size 1 A m (l.map (Value.int .i64))) :
    Calls Try.prog 3 #[.slice A m c, .int .i64 nx, .int .i64 f] w
     fun en w' => en = .returned (.bool true) ∧ Mod nowhere w w' := by
  by_cases g0 : 120 < m
  · go_enter Try.func3, Try.ntmps3
    go_wp2_with fail
    (with_reducible refine (alive22_calls _).mono ?_)
    rintro e w1 ⟨rfl, hbw1⟩
    have hzw1 := hbw1.size
    (try simp at hzw1)
    skip
    skip
    go_wp2
    go_ret
    exact ⟨rfl, (by repeat (first | with_reducible exact Mod.refl _ _ | with_reducible assumption | with_reducible refine Mod.alloc ?_ _ | with_reducible refine Mod.drew ?_ | with_reducible refine Mod.drewN ?_ _ | with_reducible refine Mod.setCell ?_ (by first | exact .inl rfl | (left; (try unfold from_); show _ ≤ _; first | omega | (simp; done) | (simp; omega)) | (right; first | omega | (simp; done) | (simp; omega))) _ | with_reducible refine Mod.call0 ?_ (by with_reducible assumption) | with_reducible refine Mod.call ?_ (by with_reducible assumption) (by first | (rintro _ rfl; first | exact .inl rfl | (right; (first | omega | (simp; done) | (simp; omega)))) | (rintro _ (rfl | rfl) <;> (right; (first | omega | (simp; done) | (simp; omega)))))))⟩
  by_cases g : 1 ≤ nx ∧ nx ≤ 6
  · have HR := hide hr
    have HL := hide hl
    clear hr hl
    obtain ⟨n, hn⟩ : ∃ n : Nat, nx = (n : Int) := ⟨nx.toNat, by omega⟩
    have HN := hide hn
    have q1 : 1 ≤ nx := g.1
    have q2 : nx ≤ 6 := g.2
    have r1 : 1 ≤ n := by omega
    have r2 : n ≤ 6 := by omega
    clear hn g
    have hlm := longM_le l n
    rw [HL.out] at hlm
    by_cases gf : 1 ≤ f ∧ f ≤ 1000
    · have q3 : 1 ≤ f := gf.1
      have q4 : f ≤ 1000 := gf.2
      obtain ⟨fn, hfn⟩ : ∃ fn : Nat, f = (fn : Int) := ⟨f.toNat, by omega⟩
      have HF := hide hfn
      have hbb : decide (1 ≤ f ∧ ((m : Int) < f ∨ (longM l n : Int) < f)) = decide (longM l n < fn) := by
        rw [decide_eq_decide]; omega
      have HBB := hide hbb
      have s1 : 1 ≤ fn := by omega
      have s2 : fn ≤ 1000 := by omega
      clear gf hfn hbb
      go_enter Try.func3, Try.ntmps3
      go_wp2_with fail
      (with_reducible refine (alive22_calls _).mono ?_)
      rintro e w1 ⟨rfl, hbw1⟩
      have hzw1 := hbw1.size
      (try simp at hzw1)
      skip
      skip
      have y1 : Mod nowhere w w1 := (by repeat (first | with_reducible exact Mod.refl _ _ | with_reducible assumption | with_reducible refine Mod.alloc ?_ _ | with_reducible refine Mod.drew ?_ | with_reducible refine Mod.drewN ?_ _ | with_reducible refine Mod.setCell ?_ (by first | exact .inl rfl | (left; (try unfold from_); show _ ≤ _; first | omega | (simp; done) | (simp; omega)) | (right; first | omega | (simp; done) | (simp; omega))) _ | with_reducible refine Mod.call0 ?_ (by with_reducible assumption) | with_reducible refine Mod.call ?_ (by with_reducible assumption) (by first | (rintro _ rfl; first | exact .inl rfl | (right; (first | omega | (simp; done) | (simp; omega)))) | (rintro _ (rfl | rfl) <;> (right; (first | omega | (simp; done) | (simp; omega)))))))
      go_wp2_with fail
      (with_reducible refine (longest_callsZ A m c w.heap.size n l nx w1 HN.out (HR.out.keepMod (Nat.le_refl _) y1) y1.size HL.out (by omega) r1 r2).mono ?_)
      rintro e2 w2 ⟨rfl, hm2⟩
      have y2 : Mod nowhere w w2 := y1.call0 hm2
      go_wp2_with fail
      (with_reducible refine (reflong_callsZ A m c w.heap.size n l nx w2 HN.out (HR.out.keepMod (Nat.le_refl _) y2) y2.size HL.out (by omega) r2).mono ?_)
      rintro e3 w3 ⟨rfl, hm3⟩
      have y3 : Mod nowhere w w3 := y2.call0 hm3
      go_wp2_with fail
      (with_reducible refine (fair_callsZ A m c w.heap.size n l nx f w3 HN.out (HR.out.keepMod (Nat.le_refl _) y3) y3.size HL.out (by omega) r1 r2).mono ?_)
      rintro e4 w4 ⟨rfl, hm4⟩
      rw [HBB.out]
      have y4 : Mod nowhere w w4 := y3.call0 hm4
      go_wp2_with fail
      (with_reducible refine (reffair_callsZ A m c w.heap.size n fn l nx f w4 HN.out HF.out (HR.out.keepMod (Nat.le_refl _) y4) y4.size HL.out (by omega) r2 s1 s2).mono ?_)
      rintro e5 w5 ⟨rfl, hm5⟩
      generalize decide (longM l n < fn) = bb
      go_wp2
      go_ret
      exact ⟨by simp, y4.call0 hm5⟩
    · have hbb : decide (1 ≤ f ∧ ((m : Int) < f ∨ (longM l n : Int) < f)) = decide (1000 < f) := by
        rw [decide_eq_decide]; omega
      have HBB := hide hbb
      have hd : f < 1 ∨ (1 ≤ f ∧ 1000 < f) := by omega
      clear gf hbb
      rcases hd with hd | ⟨hd, hd2⟩
      all_goals
        go_enter Try.func3, Try.ntmps3
        go_wp2_with fail
        (with_reducible refine (alive22_calls _).mono ?_)
        rintro e w1 ⟨rfl, hbw1⟩
        have hzw1 := hbw1.size
        (try simp at hzw1)
        skip
        skip
        have y1 : Mod nowhere w w1 := (by repeat (first | with_reducible exact Mod.refl _ _ | with_reducible assumption | with_reducible refine Mod.alloc ?_ _ | with_reducible refine Mod.drew ?_ | with_reducible refine Mod.drewN ?_ _ | with_reducible refine Mod.setCell ?_ (by first | exact .inl rfl | (left; (try unfold from_); show _ ≤ _; first | omega | (simp; done) | (simp; omega)) | (right; first | omega | (simp; done) | (simp; omega))) _ | with_reducible refine Mod.call0 ?_ (by with_reducible assumption) | with_reducible refine Mod.call ?_ (by with_reducible assumption) (by first | (rintro _ rfl; first | exact .inl rfl | (right; (first | omega | (simp; done) | (simp; omega)))) | (rintro _ (rfl | rfl) <;> (right; (first | omega | (simp; done) | (simp; omega)))))))
        go_wp2_with fail
        (with_reducible refine (longest_callsZ A m c w.heap.size n l nx w1 HN.out (HR.out.keepMod (Nat.le_refl _) y1) y1.size HL.out (by omega) r1 r2).mono ?_)
        rintro e2 w2 ⟨rfl, hm2⟩
        have y2 : Mod nowhere w w2 := y1.call0 hm2
        go_wp2_with fail
        (with_reducible refine (reflong_callsZ A m c w.heap.size n l nx w2 HN.out (HR.out.keepMod (Nat.le_refl _) y2) y2.size HL.out (by omega) r2).mono ?_)
        rintro e3 w3 ⟨rfl, hm3⟩
        have y3 : Mod nowhere w w3 := y2.call0 hm3
        go_wp2_with fail
        (with_reducible refine (fair_callsZ A m c w.heap.size n l nx f w3 HN.out (HR.out.keepMod (Nat.le_refl _) y3) y3.size HL.out (by omega) r1 r2).mono ?_)
        rintro e4 w4 ⟨rfl, hm4⟩
        rw [HBB.out]
        have y4 : Mod nowhere w w4 := y3.call0 hm4
        go_wp2
        go_ret
        exact ⟨by simp <;> omega, y4⟩
  · have HG := hide g
    have hd : nx < 1 ∨ (1 ≤ nx ∧ 6 < nx) := by omega
    clear g
    rcases hd with hd | ⟨hd, hd2⟩
    all_goals
      go_enter Try.func3, Try.ntmps3
      go_wp2_with fail
      (with_reducible refine (alive22_calls _).mono ?_)
      rintro e w1 ⟨rfl, hbw1⟩
      have hzw1 := hbw1.size
      (try simp at hzw1)
      skip
      skip
      have y1 : Mod nowhere w w1 := (by repeat (first | with_reducible exact Mod.refl _ _ | with_reducible assumption | with_reducible refine Mod.alloc ?_ _ | with_reducible refine Mod.drew ?_ | with_reducible refine Mod.drewN ?_ _ | with_reducible refine Mod.setCell ?_ (by first | exact .inl rfl | (left; (try unfold from_); show _ ≤ _; first | omega | (simp; done) | (simp; omega)) | (right; first | omega | (simp; done) | (simp; omega))) _ | with_reducible refine Mod.call0 ?_ (by with_reducible assumption) | with_reducible refine Mod.call ?_ (by with_reducible assumption) (by first | (rintro _ rfl; first | exact .inl rfl | (right; (first | omega | (simp; done) | (simp; omega)))) | (rintro _ (rfl | rfl) <;> (right; (first | omega | (simp; done) | (simp; omega)))))))
      go_wp2_with fail
      (with_reducible refine (longest_bad _ nx w1 HG.out).mono ?_)
      rintro e2 w2 ⟨rfl, hm2⟩
      go_wp2_with fail
      (with_reducible refine (fair_bad _ nx f w2 HG.out).mono ?_)
      rintro e3 w3 ⟨rfl, hm3⟩
      go_wp2
      go_ret
      exact ⟨rfl, (y1.call0 hm2).call0 hm3⟩
end Go.Proofs.Ytffeidjalphemaa
