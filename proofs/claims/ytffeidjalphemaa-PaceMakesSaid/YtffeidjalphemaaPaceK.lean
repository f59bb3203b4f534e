/- The law PaceMakes, walked. -/
import Derived.Test.YtffeidjalphemaaRef2
namespace Go.Proofs.Ytffeidjalphemaa
open Go.RowKit

theorem make_bad (s : Value) (n f : Int) (w : World) (h : ¬ (1 ≤ n ∧ n ≤ 6) ∨ f < n) :
    Calls Try.prog 14 #[s, .int .i64 n, .int .i64 f] w fun e w' => e = .returned (.tuple #[.slice none 0 0, .int .i64 2]) ∧ Mod nowhere w w' := by
  by_cases g : 1 ≤ n ∧ n ≤ 6
  · have hw := decide_eq_true g
    have hf : f < n := h.elim (fun h => absurd g h) id
    clear h g
    go_enter Try.func14, Try.ntmps14
    go_wp2_with fail
    (with_reducible refine (within_calls n _).mono ?_)
    rintro e w5 ⟨rfl, hm5⟩
    rw [hw]
    go_wp2
    go_ret2
    exact ⟨rfl, hm5⟩
  · have hw := decide_eq_false g
    clear h g
    go_enter Try.func14, Try.ntmps14
    go_wp2_with fail
    (with_reducible refine (within_calls n _).mono ?_)
    rintro e w5 ⟨rfl, hm5⟩
    rw [hw]
    go_wp2
    go_ret2
    exact ⟨rfl, hm5⟩
theorem refmake_callsZ (A : Option Addr) (m c B n : Nat) (ws : List Int) (nx f : Int) (w : World) (hnx : nx = n) (hr : Reads w B 1 A m (ws.map (Value.int .i64))) (hB : B ≤ w.heap.size) (hl : ws.length = m) (hm : m ≤ 400) (h1 : 1 ≤ n) (h6 : n ≤ 6) (hf : (n : Int) ≤ f) (hfi : f ≤ 9223372036854775807) :
    Calls Try.prog 16 #[.slice A m c, .int .i64 nx, .int .i64 f] w fun e w' => ∃ z, e = .returned z ∧ LocRow w' w.heap.size 3 1 z m ((stM f n ws).2.map (Value.int .i64)) ∧ Mod nowhere w w' := by
  subst hnx; exact refmake_calls A m c B n ws f w hr hB hl hm h1 h6 hf hfi

set_option maxRecDepth 100000 in
set_option maxHeartbeats 8000000 in
theorem law_paceMakes (A : Option Addr) (m c : Nat) (l : List Int) (nx f : Int) (w : World) (hl : l.length = m) (hr : Reads w w.heap.size 1 A m (l.map (Value.int .i64))) (hf : I64 f) :
    Calls Try.prog 4 #[.slice A m c, .int .i64 nx, .int .i64 f] w
     fun en w' => en = .returned (.bool true) ∧ Mod nowhere w w' := by
  by_cases g0 : 200 < m
  · go_enter Try.func4, Try.ntmps4
    go_wp2_with fail
    (with_reducible refine (alive22_calls _).mono ?_)
    rintro e w1 ⟨rfl, hbw1⟩
    have hzw1 := hbw1.size
    (try simp at hzw1)
    skip
    skip
    go_wp2
    go_ret
    exact ⟨rfl, (by repeat (first | with_reducible exact Mod.refl _ _ | with_reducible assumption | with_reducible refine Mod.alloc ?_ _ | with_reducible refine Mod.drew ?_ | with_reducible refine Mod.drewN ?_ _ | with_reducible refine Mod.setCell ?_ (by first | exact .inl rfl | (left; (try unfold from_); show _ ≤ _; first | omega | (simp; done) | (simp; omega)) | (right; first | omega | (simp; done) | (simp; omega))) _ | with_reducible refine Mod.call0 ?_ (by with_reducible assumption) | with_reducible refine Mod.call ?_ (by with_reducible assumption) (by first | (rintro _ rfl; first | exact .inl rfl | (right; (first | omega | (simp; done) | (simp; omega)))) | (rintro _ (rfl | rfl) <;> (right; (first | omega | (simp; done) | (simp; omega)))))))⟩
  by_cases g : (1 ≤ nx ∧ nx ≤ 6) ∧ nx ≤ f
  · have HR := hide hr
    have HL := hide hl
    have hfi : f ≤ 9223372036854775807 := hf.2
    clear hr hl hf
    obtain ⟨n, hn⟩ : ∃ n : Nat, nx = (n : Int) := ⟨nx.toNat, by omega⟩
    have HN := hide hn
    have q1 : 1 ≤ nx := g.1.1
    have q2 : nx ≤ 6 := g.1.2
    have q3 : nx ≤ f := g.2
    have r1 : 1 ≤ n := by omega
    have r2 : n ≤ 6 := by omega
    have r3 : (n : Int) ≤ f := by omega
    clear hn g
    go_enter Try.func4, Try.ntmps4
    go_wp2_with fail
    (with_reducible refine (alive22_calls _).mono ?_)
    rintro e w1 ⟨rfl, hbw1⟩
    have hzw1 := hbw1.size
    (try simp at hzw1)
    skip
    skip
    have y1 : Mod nowhere w w1 := (by repeat (first | with_reducible exact Mod.refl _ _ | with_reducible assumption | with_reducible refine Mod.alloc ?_ _ | with_reducible refine Mod.drew ?_ | with_reducible refine Mod.drewN ?_ _ | with_reducible refine Mod.setCell ?_ (by first | exact .inl rfl | (left; (try unfold from_); show _ ≤ _; first | omega | (simp; done) | (simp; omega)) | (right; first | omega | (simp; done) | (simp; omega))) _ | with_reducible refine Mod.call0 ?_ (by with_reducible assumption) | with_reducible refine Mod.call ?_ (by with_reducible assumption) (by first | (rintro _ rfl; first | exact .inl rfl | (right; (first | omega | (simp; done) | (simp; omega)))) | (rintro _ (rfl | rfl) <;> (right; (first | omega | (simp; done) | (simp; omega)))))))
    go_wp2_with fail
    (with_reducible refine (make_callsZ A m c w.heap.size n l nx f w1 HN.out (HR.out.keepMod (Nat.le_refl _) y1) y1.size HL.out (by omega) r1 r2 r3 hfi).mono ?_)
    rintro e2 w2 ⟨z2, rfl, hz2, hm2⟩
    have y2 : Mod nowhere w w2 := y1.call0 hm2
    obtain ⟨A2, c2, rfl, hrd2⟩ := hz2.reads
    have HRD2 := hide hrd2
    clear hz2 hrd2
    go_wp2_with fail
    (with_reducible refine (refmake_callsZ A m c w.heap.size n l nx f w2 HN.out (HR.out.keepMod (Nat.le_refl _) y2) y2.size HL.out (by omega) r1 r2 r3 hfi).mono ?_)
    rintro e3 w3 ⟨z3, rfl, hz3, hm3⟩
    have y3 : Mod nowhere w w3 := y2.call0 hm3
    obtain ⟨A3, c3, rfl, hrd3⟩ := hz3.reads
    have HRD3 := hide hrd3
    clear hz3 hrd3
    go_wp2_with fail
    (with_reducible refine (ints_same (stM f n l).2 A2 A3 m c2 c3 w2.heap.size w3.heap.size w3 (by rw [(stM_len _ _ _).2, HL.out]) (by omega) (HRD2.out.keepMod (Nat.le_refl _) hm3) HRD3.out hm3.size (Nat.le_refl _)).mono ?_)
    rintro e4 w4 ⟨rfl, hm4⟩
    go_wp2
    go_ret
    exact ⟨rfl, y3.call0 hm4⟩
  · have HG := hide (show ¬ (1 ≤ nx ∧ nx ≤ 6) ∨ f < nx by omega)
    have hd : nx < 1 ∨ (1 ≤ nx ∧ 6 < nx) ∨ (1 ≤ nx ∧ nx ≤ 6 ∧ f < nx) := by omega
    clear g
    rcases hd with hd | ⟨hd, hd2⟩ | ⟨hd, hd2, hd3⟩
    all_goals
      go_enter Try.func4, Try.ntmps4
      go_wp2_with fail
      (with_reducible refine (alive22_calls _).mono ?_)
      rintro e w1 ⟨rfl, hbw1⟩
      have hzw1 := hbw1.size
      (try simp at hzw1)
      skip
      skip
      have y1 : Mod nowhere w w1 := (by repeat (first | with_reducible exact Mod.refl _ _ | with_reducible assumption | with_reducible refine Mod.alloc ?_ _ | with_reducible refine Mod.drew ?_ | with_reducible refine Mod.drewN ?_ _ | with_reducible refine Mod.setCell ?_ (by first | exact .inl rfl | (left; (try unfold from_); show _ ≤ _; first | omega | (simp; done) | (simp; omega)) | (right; first | omega | (simp; done) | (simp; omega))) _ | with_reducible refine Mod.call0 ?_ (by with_reducible assumption) | with_reducible refine Mod.call ?_ (by with_reducible assumption) (by first | (rintro _ rfl; first | exact .inl rfl | (right; (first | omega | (simp; done) | (simp; omega)))) | (rintro _ (rfl | rfl) <;> (right; (first | omega | (simp; done) | (simp; omega)))))))
      go_wp2_with fail
      (with_reducible refine (make_bad _ nx f w1 HG.out).mono ?_)
      rintro e2 w2 ⟨rfl, hm2⟩
      go_wp2
      go_ret
      exact ⟨rfl, y1.call0 hm2⟩
end Go.Proofs.Ytffeidjalphemaa
