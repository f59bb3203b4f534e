/- What floor.New needs: Check, manager, a copy of the draws. -/
import Derived.Test.YtcfpgecchappoaaMapPtr
import Derived.Test.YtcfpgecchappoaaB2
import Derived.IntWalk
import Derived.LoopTactic
import Derived.Deep.RegionLaw
import Derived.Lib.SliceRun
namespace Go.Proofs.Ytcfpgecchappoaa
open Go.RowKit

theorem fwithin_calls (n a b : Int) (w : World) :
    Calls Try.prog 53 #[.int .i64 n, .int .i64 a, .int .i64 b] w fun e w' => e = .returned (.bool (decide (a ≤ n ∧ n ≤ b))) ∧ Mod nowhere w w' := by
  by_cases h : a ≤ n
  · have e : decide (a ≤ n ∧ n ≤ b) = decide (n ≤ b) := by simp [h]
    rw [e]
    go_enter Try.func53, Try.ntmps53
    go_wp2
    go_ret
    exact ⟨rfl, (by repeat (first | with_reducible exact Mod.refl _ _ | with_reducible assumption | with_reducible refine Mod.alloc ?_ _ | with_reducible refine Mod.drew ?_ | with_reducible refine Mod.drewN ?_ _ | with_reducible refine Mod.setCell ?_ (by first | exact .inl rfl | (left; (try unfold from_); show _ ≤ _; first | omega | (simp; done) | (simp; omega)) | (right; first | omega | (simp; done) | (simp; omega))) _ | with_reducible refine Mod.call0 ?_ (by with_reducible assumption) | with_reducible refine Mod.call ?_ (by with_reducible assumption) (by first | (rintro _ rfl; first | exact .inl rfl | (right; (first | omega | (simp; done) | (simp; omega)))) | (rintro _ (rfl | rfl) <;> (right; (first | omega | (simp; done) | (simp; omega)))))))⟩
  · have e : decide (a ≤ n ∧ n ≤ b) = false := by simp [h]
    rw [e]
    go_enter Try.func53, Try.ntmps53
    go_wp2
    go_ret
    exact ⟨rfl, (by repeat (first | with_reducible exact Mod.refl _ _ | with_reducible assumption | with_reducible refine Mod.alloc ?_ _ | with_reducible refine Mod.drew ?_ | with_reducible refine Mod.drewN ?_ _ | with_reducible refine Mod.setCell ?_ (by first | exact .inl rfl | (left; (try unfold from_); show _ ≤ _; first | omega | (simp; done) | (simp; omega)) | (right; first | omega | (simp; done) | (simp; omega))) _ | with_reducible refine Mod.call0 ?_ (by with_reducible assumption) | with_reducible refine Mod.call ?_ (by with_reducible assumption) (by first | (rintro _ rfl; first | exact .inl rfl | (right; (first | omega | (simp; done) | (simp; omega)))) | (rintro _ (rfl | rfl) <;> (right; (first | omega | (simp; done) | (simp; omega)))))))⟩
theorem fwithin_yes (n a b : Int) (w : World) (h : a ≤ n ∧ n ≤ b) :
    Calls Try.prog 53 #[.int .i64 n, .int .i64 a, .int .i64 b] w fun e w' => e = .returned (.bool true) ∧ Mod nowhere w w' := by
  have := fwithin_calls n a b w
  rwa [decide_eq_true h] at this
def CfgOk (c0 c1 c2 c3 c4 c5 : Int) : Prop := (1 ≤ c0 ∧ c0 ≤ 8) ∧ (1 ≤ c1 ∧ c1 ≤ 6) ∧ (1 ≤ c2 ∧ c2 ≤ 4096) ∧ (0 ≤ c3 ∧ c3 ≤ 255) ∧ (1 ≤ c4 ∧ c4 ≤ 4) ∧ (1 ≤ c5 ∧ c5 ≤ 64)
set_option maxRecDepth 100000 in
set_option maxHeartbeats 4000000 in
theorem check_yes (c0 c1 c2 c3 c4 c5 : Int) (w : World) (h : CfgOk c0 c1 c2 c3 c4 c5) :
    Calls Try.prog 24 #[.agg #[.int .i64 c0, .int .i64 c1, .int .i64 c2, .int .i64 c3, .int .i64 c4, .int .i64 c5]] w fun e w' => e = .returned (.bool true) ∧ Mod nowhere w w' := by
  obtain ⟨h0, h1, h2, h3, h4, h5⟩ := h
  have H0 := hide h0
  have H1 := hide h1
  have H2 := hide h2
  have H3 := hide h3
  have H4 := hide h4
  have H5 := hide h5
  clear h0 h1 h2 h3 h4 h5
  go_enter Try.func24, Try.ntmps24
  go_wp2_with fail
  (with_reducible refine (fwithin_yes c0 1 8 _ H0.out).mono ?_)
  rintro e w1 ⟨rfl, hbw1⟩
  have hzw1 := hbw1.size
  (try simp at hzw1)
  (try (have ltw10 : w.heap.size < w1.heap.size := (by omega); have lcw10 := fun o => hbw1.cell (b := w.heap.size) o (by first | omega | (simp; done) | (simp; omega)) (id); have lfw10 := fun o => hbw1.frozen (b := w.heap.size) o (by first | omega | (simp; done) | (simp; omega)) (id)))
  skip
  go_wp2_with fail
  (with_reducible refine (fwithin_yes c1 1 6 _ H1.out).mono ?_)
  rintro e w2 ⟨rfl, hbw2⟩
  have hzw2 := hbw2.size
  (try simp at hzw2)
  (try (have ltw20 : w.heap.size < w2.heap.size := (by omega); have lcw20 := fun o => hbw2.cell (b := w.heap.size) o (by first | omega | (simp; done) | (simp; omega)) (id); have lfw20 := fun o => hbw2.frozen (b := w.heap.size) o (by first | omega | (simp; done) | (simp; omega)) (id)))
  skip
  go_wp2_with fail
  (with_reducible refine (fwithin_yes c2 1 4096 _ H2.out).mono ?_)
  rintro e w3 ⟨rfl, hbw3⟩
  have hzw3 := hbw3.size
  (try simp at hzw3)
  (try (have ltw30 : w.heap.size < w3.heap.size := (by omega); have lcw30 := fun o => hbw3.cell (b := w.heap.size) o (by first | omega | (simp; done) | (simp; omega)) (id); have lfw30 := fun o => hbw3.frozen (b := w.heap.size) o (by first | omega | (simp; done) | (simp; omega)) (id)))
  skip
  go_wp2_with fail
  (with_reducible refine (fwithin_yes c3 0 255 _ H3.out).mono ?_)
  rintro e w4 ⟨rfl, hbw4⟩
  have hzw4 := hbw4.size
  (try simp at hzw4)
  (try (have ltw40 : w.heap.size < w4.heap.size := (by omega); have lcw40 := fun o => hbw4.cell (b := w.heap.size) o (by first | omega | (simp; done) | (simp; omega)) (id); have lfw40 := fun o => hbw4.frozen (b := w.heap.size) o (by first | omega | (simp; done) | (simp; omega)) (id)))
  skip
  go_wp2_with fail
  (with_reducible refine (fwithin_yes c4 1 4 _ H4.out).mono ?_)
  rintro e w5 ⟨rfl, hbw5⟩
  have hzw5 := hbw5.size
  (try simp at hzw5)
  (try (have ltw50 : w.heap.size < w5.heap.size := (by omega); have lcw50 := fun o => hbw5.cell (b := w.heap.size) o (by first | omega | (simp; done) | (simp; omega)) (id); have lfw50 := fun o => hbw5.frozen (b := w.heap.size) o (by first | omega | (simp; done) | (simp; omega)) (id)))
  skip
  go_wp2_with fail
  (with_reducible refine (fwithin_yes c5 1 64 _ H5.out).mono ?_)
  rintro e w6 ⟨rfl, hbw6⟩
  have hzw6 := hbw6.size
  (try simp at hzw6)
  (try (have ltw60 : w.heap.size < w6.heap.size := (by omega); have lcw60 := fun o => hbw6.cell (b := w.heap.size) o (by first | omega | (simp; done) | (simp; omega)) (id); have lfw60 := fun o => hbw6.frozen (b := w.heap.size) o (by first | omega | (simp; done) | (simp; omega)) (id)))
  skip
  go_wp2
  go_ret
  exact ⟨rfl, (by repeat (first | with_reducible exact Mod.refl _ _ | with_reducible assumption | with_reducible refine Mod.alloc ?_ _ | with_reducible refine Mod.drew ?_ | with_reducible refine Mod.drewN ?_ _ | with_reducible refine Mod.setCell ?_ (by first | exact .inl rfl | (left; (try unfold from_); show _ ≤ _; first | omega | (simp; done) | (simp; omega)) | (right; first | omega | (simp; done) | (simp; omega))) _ | with_reducible refine Mod.call0 ?_ (by with_reducible assumption) | with_reducible refine Mod.call ?_ (by with_reducible assumption) (by first | (rintro _ rfl; first | exact .inl rfl | (right; (first | omega | (simp; done) | (simp; omega)))) | (rintro _ (rfl | rfl) <;> (right; (first | omega | (simp; done) | (simp; omega)))))))⟩

/-! ### manager -/
def mgrT (n : Int) : Option Nat := if n = 4 then some 136 else if n = 3 then some 133 else if n = 2 then some 132 else if n = 1 then some 129 else none
def ifElem : Value → Option (DataW Nat × List MemPlace)
  | .nilIface => some (.lit (.int .i64 (-1)), [])
  | .iface t (.agg a) => if a.size = 0 then some (.lit (.int .i64 t), []) else none
  | _ => none
def ifV : Option Nat → Value
  | none => .nilIface
  | some t => .iface t (.agg #[])
theorem ifElem_inv {v : Value} {d : Option Nat} {ps : List MemPlace} (h : ifElem v = some (ptrD d, ps)) : v = ifV d := by
  unfold ifElem at h
  split at h
  · cases d with
    | none => rfl
    | some p => simp [ptrD] at h
  · rename_i b a
    split at h
    · rename_i hz
      cases d with
      | none => simp [ptrD] at h
      | some p =>
        simp [ptrD] at h
        have hb : b = p := Int.ofNat.inj h.1
        rw [ifV, hb, Array.eq_empty_of_size_eq_zero hz]
    · cases h
  · cases h
def IsIMap (w : World) (b n : Nat) (M : Int → Option Nat) : Prop :=
  ∃ D : DataW Nat, w.ownsMap Try.prog 3 ifElem b n D ∧ Maps.IsMap D ∧ ∀ i, D.atKey (.int .i64 i) (ptrD none) = ptrD (M i)
theorem IsIMap.made (w : World) : IsIMap (w.alloc (.map #[] 0)) w.heap.size 0 (fun _ => none) :=
  ⟨.map [], World.ownsMap_made w _ _ _, Maps.isMap_empty, fun _ => rfl⟩
theorem imap_zero (w : World) : (zeroValue 54).run Try.prog w = .ok .nilIface w := by kernel_rfl
theorem IsIMap.look {w : World} {b n : Nat} {M : Int → Option Nat} (h : IsIMap w b n M) (i : Int) (hi : I64 i) : (Instr.lookup 137 (.map (some b)) (.int .i64 i) false).run Try.prog w = .ok (ifV (M i)) w := by
  obtain ⟨D, h1, _, h2⟩ := h
  obtain ⟨v, ps, hr, hv⟩ := h1.lookup pmap_keyed Try.underlying137 (imap_zero w) (zd := ptrD none) (zp := []) rfl (Maps.keyOf_int_mk Try.underlying3 (wf_of hi))
  rw [h2 i] at hv
  rw [hr, ifElem_inv hv]
theorem IsIMap.put {w : World} {b n : Nat} {M : Int → Option Nat} (h : IsIMap w b n M) (i : Int) (p : Nat) (hi : I64 i) (hn : n < maxLen) :
    ∃ w', (Instr.mapUpdate 137 (.map (some b)) (.int .i64 i) (.iface p (.agg #[]))).run Try.prog w = .ok () w' ∧ IsIMap w' b (n + 1) (fun k => if k = i then some p else M k) ∧ Mod (· = b) w w' := by
  obtain ⟨D, h1, h3, h2⟩ := h
  obtain ⟨w', hr, ho, hg⟩ := h1.update pmap_keyed Try.underlying137 hn (val := .iface p (.agg #[])) (Maps.keyOf_int_mk Try.underlying3 (wf_of hi)) (d := ptrD (some p)) (ps := []) rfl
  refine ⟨w', hr, ⟨_, ho, h3.put _ _, fun k => ?_⟩, (Mod.of_grown hg).mono fun k hk => by simpa using hk⟩
  show (D.put (.int .i64 i) (ptrD (some p))).atKey (.int .i64 k) (ptrD none) = ptrD (if k = i then some p else M k)
  by_cases hk : k = i
  · subst hk
    rw [if_pos rfl, Maps.atKey_put_same h3 (by trivial)]
  · rw [if_neg hk, Maps.atKey_put_other (by simpa using hk), h2 k]
set_option maxRecDepth 100000 in
set_option maxHeartbeats 4000000 in
theorem mgr_calls (n : Int) (w : World) (hi : I64 n) :
    Calls Try.prog 43 #[.int .i64 n] w fun e w' => e = .returned (ifV (mgrT n)) ∧ Mod nowhere w w' := by
  have hmm := @run_makeMap Try.prog
  have h0 := IsIMap.made w
  obtain ⟨w1, r1, h1, m1⟩ := h0.put 1 129 (by unfold I64; omega) (by unfold maxLen; omega)
  obtain ⟨w2, r2, h2, m2⟩ := h1.put 2 132 (by unfold I64; omega) (by unfold maxLen; omega)
  obtain ⟨w3, r3, h3, m3⟩ := h2.put 3 133 (by unfold I64; omega) (by unfold maxLen; omega)
  obtain ⟨w4, r4, h4, m4⟩ := h3.put 4 136 (by unfold I64; omega) (by unfold maxLen; omega)
  have rl := h4.look n hi
  have mm : Mod nowhere w w4 := ((((((Mod.refl nowhere w).alloc _).call m1 (fun i e => .inr (by rw [e]; exact Nat.le_refl _))).call m2 (fun i e => .inr (by rw [e]; exact Nat.le_refl _))).call m3 (fun i e => .inr (by rw [e]; exact Nat.le_refl _))).call m4 (fun i e => .inr (by rw [e]; exact Nat.le_refl _)))
  have rl' : (Instr.lookup 137 (.map (some w.heap.size)) (.int .i64 n) false).run Try.prog w4 = .ok (ifV (mgrT n)) w4 := rl
  clear h0 h1 h2 h3 h4 m1 m2 m3 m4 rl
  go_enter Try.func43, Try.ntmps43
  go_wp2
  go_ret
  exact ⟨rfl, mm⟩
end Go.Proofs.Ytcfpgecchappoaa
