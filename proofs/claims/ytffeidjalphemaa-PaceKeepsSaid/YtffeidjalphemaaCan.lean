/- Whether one can be picked: the others can all still wait. -/
import Derived.Test.YtffeidjalphemaaQueue
namespace Go.Proofs.Ytffeidjalphemaa
open Go.RowKit

def under (m : Nat) (x : Int × Int) : Bool := decide (x.2 - 1 < (m : Int))
def CanP (l : List (Int × Int)) : Prop := ∀ m : Nat, m < l.length → l.countP (under m) ≤ m
instance (l : List (Int × Int)) : Decidable (CanP l) := by unfold CanP; infer_instance
theorem CanP.all {l : List (Int × Int)} (h : CanP l) (m : Nat) : l.countP (under m) ≤ m := by
  by_cases hm : m < l.length
  · exact h m hm
  · exact Nat.le_trans (List.countP_le_length) (by omega)
theorem qto_mem {pt : List Int} {but : Int} {k : Nat} {x : Int × Int} (h : x ∈ qto pt but k) : ∃ t, t < k ∧ (t : Int) ≠ but ∧ x = ((t : Int), pt.getD t 0) := by
  induction k with
  | zero => simp [qto] at h
  | succ k ih =>
    unfold qto at h
    split at h
    · obtain ⟨t, h1, h2, h3⟩ := ih h
      exact ⟨t, by omega, h2, h3⟩
    · rename_i hne
      rcases List.mem_append.1 h with h | h
      · obtain ⟨t, h1, h2, h3⟩ := ih h
        exact ⟨t, by omega, h2, h3⟩
      · simp at h
        exact ⟨k, by omega, hne, h⟩
theorem run_field1 (a b : Int) (w : World) : Sem.run Try.prog (Instr.field 38 (.agg #[.int .i64 a, .int .i64 b]) 1) w = .ok (.int .i64 b) w := by kernel_rfl
theorem run_field0 (a b : Int) (w : World) : Sem.run Try.prog (Instr.field 38 (.agg #[.int .i64 a, .int .i64 b]) 0) w = .ok (.int .i64 a) w := by kernel_rfl

set_option maxRecDepth 100000 in
set_option maxHeartbeats 2000000 in
theorem can_calls (A : Option Addr) (n c B : Nat) (pt : List Int) (pick : Int) (w : World) (hr : Reads w B 1 A n (pt.map (Value.int .i64))) (hB : B ≤ w.heap.size) (hn : n ≤ 100) (hpt : ∀ t, t < n → -1000000 ≤ pt.getD t 0 ∧ pt.getD t 0 ≤ 9223372036854775807) :
    Calls Try.prog 18 #[.slice A n c, .int .i64 pick] w fun e w' => e = .returned (.bool (decide (CanP (qto pt pick n)))) ∧ Mod nowhere w w' := by
  have HR := hide hr
  have HQ := hide (fun x (hx : x ∈ qto pt pick n) => (qto_mem hx).elim fun t ht => (show -1000000 ≤ x.2 ∧ x.2 ≤ 9223372036854775807 by rw [ht.2.2]; exact hpt t ht.1))
  clear hr hpt
  go_enter Try.func18, Try.ntmps18
  go_wp2_with fail
  (with_reducible refine (queue_calls A n c B pt pick w HR.out hB hn).mono ?_)
  rintro e w5 ⟨p, l0, rfl, hP0, hperm0, hheap0, hm5⟩
  have hlen0 : l0.length ≤ n := by rw [hperm0.length_eq]; exact qto_length _ _ _
  obtain ⟨L, hLe⟩ : ∃ L, L = qto pt pick n := ⟨_, rfl⟩
  rw [← hLe] at hperm0 HQ
  have HLE := hide hLe
  clear hLe
  go_wp2_with fail
  go_loopw [6] (fun s6 wx => ∃ (k : Nat) (l ps : List (Int × Int)), s6 = .int .i64 k ∧ HP wx w.heap.size p l ∧ IsHeap l l.length ∧ (ps ++ l).Perm L ∧ ps.length = k ∧ (∀ y ∈ ps, ∀ z ∈ l, y.2 ≤ z.2) ∧ (∀ m : Nat, ps.countP (under m) ≤ m) ∧ Mod (from_ w.heap.size) w wx)
    (fun s6 _ => (300 - (intOf s6)).toNat)
  case atStart => exact ⟨0, l0, [], rfl, hP0, hheap0, hperm0, rfl, fun y hy => by simp at hy, fun m => by simp, hm5.mono fun _ x => x.elim⟩
  case round =>
    obtain ⟨k, l, ps, rfl, hP, hheap, hperm, hk, hord, hcnt, hmr⟩ := hrel
    have hsz := hmr.size
    have hlenL : ps.length + l.length ≤ n := by have := hperm.length_eq; rw [List.length_append] at this; have := hperm0.length_eq; omega
    have HK := hide hk
    have HORD := hide hord
    have HCNT := hide hcnt
    have HPERM := hide hperm
    have hP' := hP
    obtain ⟨r, cap, h1, h2, h3, hb, ho⟩ := hP'
    have c0 : wr.cell? ⟨p, 0, none⟩ = some (.slice (some ⟨r, 0, none⟩) l.length cap) := (hb.cell 0).trans rfl
    have ml := m_len p _ wr c0
    have hkn : k + l.length ≤ n := by omega
    clear hk hord hcnt hperm hlenL
    go_wp2_with fail
    (with_reducible refine (wlen_calls (some ⟨r, 0, none⟩) l.length cap wr).mono ?_)
    rintro e w6 ⟨rfl, hm6⟩
    by_cases h0 : 0 < l.length
    · go_wp2_with fail
      (with_reducible refine (hpop_calls w.heap.size p l w6 (hP.keep0 hm6) (by omega) h0 hheap).mono ?_)
      rintro e w7 ⟨x, l', rfl, h7, hperm7, hheap7, hmin7, hm7⟩
      have hPL : (ps ++ x :: l').Perm L := (hperm7.append_left ps).trans HPERM.out
      have hxL := HQ.out x (hPL.mem_iff.1 (by simp))
      obtain ⟨x1, x2⟩ := x
      simp only at hxL
      have hta := run_assert
      have hf1 := run_field1
      have y7 : Mod (from_ w.heap.size) w w7 := (hmr.call0 hm6).trans hm7
      have HMIN := hide hmin7
      have HPL := hide hPL
      have HP7 := hide hperm7
      clear hmin7 hPL hperm7 ml c0
      by_cases hlt : x2 - 1 < (k : Int)
      · have hno : ¬ CanP L := fun hc => by
          have h1 := hc.all k
          rw [← HPL.out.countP_eq, List.countP_append, List.countP_cons] at h1
          have e1 : ps.countP (under k) = ps.length := List.countP_eq_length.2 fun y hy => by
            have := HORD.out y hy (x1, x2) (HP7.out.mem_iff.1 (by simp))
            simp only [under, decide_eq_true_eq]
            simp only at this
            omega
          have e2 : under k (x1, x2) = true := by simp only [under, decide_eq_true_eq]; exact hlt
          rw [e1, e2, HK.out] at h1
          simp at h1
          omega
        go_wp2
        go_ret
        exact ⟨by rw [← HLE.out, decide_eq_false hno]; rfl, (Mod.refl nowhere w).call y7 fun i hi => .inr hi⟩
      · go_wp2
        refine ⟨⟨k + 1, l', ps ++ [(x1, x2)], by go_num, h7, hheap7, by rw [List.append_assoc]; exact HPL.out, by simp [HK.out], fun y hy z hz => ?_, fun m => ?_, y7⟩, by simp [intOf] <;> omega⟩
        · rcases List.mem_append.1 hy with hy | hy
          · exact HORD.out y hy z (HP7.out.mem_iff.1 (List.mem_cons_of_mem _ hz))
          · simp at hy; subst hy; exact (HMIN.out z hz).snd
        · rw [List.countP_append, List.countP_cons, List.countP_nil]
          by_cases hu : under m (x1, x2) = true
          · have hm : x2 - 1 < (m : Int) := by simpa [under] using hu
            have := List.countP_le_length (p := under m) (l := ps)
            have := HK.out
            rw [hu]; simp; omega
          · have := HCNT.out m
            simp [hu]; exact this
    · have hyes : CanP L := fun m _ => by
        have : l = [] := List.length_eq_zero_iff.1 (by omega)
        have hp := HPERM.out
        rw [this, List.append_nil] at hp
        rw [← hp.countP_eq]; exact HCNT.out m
      go_wp2
      go_ret
      exact ⟨by rw [← HLE.out, decide_eq_true hyes]; rfl, (Mod.refl nowhere w).call (hmr.call0 hm6) fun i hi => .inr hi⟩
end Go.Proofs.Ytffeidjalphemaa
