/- Pace's queue, and whether one can be picked. -/
import Derived.Test.YtffeidjalphemaaHeapPop
namespace Go.Proofs.Ytffeidjalphemaa
open Go.RowKit

/-- The first k threads but one, with their patience. -/
def qto (pt : List Int) (but : Int) : Nat → List (Int × Int)
  | 0 => []
  | k + 1 => if (k : Int) = but then qto pt but k else qto pt but k ++ [((k : Int), pt.getD k 0)]
theorem qto_length (pt : List Int) (but : Int) (k : Nat) : (qto pt but k).length ≤ k := by
  induction k with
  | zero => exact Nat.le_refl _
  | succ k ih =>
    unfold qto
    split
    · omega
    · simp only [List.length_append, List.length_cons, List.length_nil]; omega
theorem hp_new (w : World) : HP ((w.alloc (.cells #[] 38)).alloc (.cells #[.slice (some ⟨w.heap.size, 0, none⟩) 0 0] 49)) w.heap.size (w.heap.size + 1) [] := by
  refine ⟨w.heap.size, 0, by omega, Nat.le_refl _, by omega, ?_, rfl, .inr ⟨w.heap.size, 0, #[], rfl, Nat.zero_le _, Blk.alloc (Blk.new _ _ _) _, Nat.le_refl _, by unfold maxLen; omega, rfl, rfl⟩⟩
  exact Blk.newAt (by simp)
theorem reads_cell {w w' : World} {B n k : Nat} {A : Option Addr} {pt : List Int} (h : Reads w B 1 A n (pt.map (Value.int .i64))) (hB : B ≤ w.heap.size) (hm : Mod (from_ w.heap.size) w w') (hk : k < n) :
    ∃ b o, A = some ⟨b, o, none⟩ ∧ b < w.heap.size ∧ w'.cell? ⟨b, o + k, none⟩ = some (.int .i64 (pt.getD k 0)) := by
  obtain ⟨b, o, rfl, hb, hc⟩ := h.form (by omega) (by omega)
  have hl : pt.length = n := by have := h.1; simpa using this
  refine ⟨b, o, rfl, by omega, (hm.cell (o + k) (by omega) (by unfold from_; omega)).trans (hc k _ ?_)⟩
  rw [List.getElem?_map, List.getElem?_eq_getElem (by omega)]
  simp [List.getD_eq_getElem?_getD, hl, hk]

set_option maxRecDepth 100000 in
set_option maxHeartbeats 2000000 in
theorem queue_calls (A : Option Addr) (n c B : Nat) (pt : List Int) (but : Int) (w : World) (hr : Reads w B 1 A n (pt.map (Value.int .i64))) (hB : B ≤ w.heap.size) (hn : n ≤ 100) :
    Calls Try.prog 20 #[.slice A n c, .int .i64 but] w fun e w' => ∃ p l, e = .returned (hptr p) ∧ HP w' w.heap.size p l ∧ l.Perm (qto pt but n) ∧ IsHeap l l.length ∧ Mod nowhere w w' := by
  have HR := hide hr
  have h0 := hp_new w
  clear hr
  go_enter Try.func20, Try.ntmps20
  go_wp2_with fail
  go_loopw [6, 7, 13] (fun _ _ s13 wx => ∃ (k : Nat) (l : List (Int × Int)), s13 = .int .i64 k ∧ k ≤ n ∧ HP wx w.heap.size (w.heap.size + 1) l ∧ l.Perm (qto pt but k) ∧ IsHeap l l.length ∧ Mod (from_ w.heap.size) w wx)
    (fun _ _ s13 _ => (300 - (intOf s13)).toNat)
  case atStart => exact ⟨0, [], rfl, Nat.zero_le _, h0, .refl _, fun k a b => absurd b (by simp), (by repeat (first | with_reducible exact Mod.refl _ _ | with_reducible assumption | with_reducible refine Mod.alloc ?_ _ | with_reducible refine Mod.drew ?_ | with_reducible refine Mod.drewN ?_ _ | with_reducible refine Mod.setCell ?_ (by first | exact .inl rfl | (left; (try unfold from_); show _ ≤ _; first | omega | (simp; done) | (simp; omega)) | (right; first | omega | (simp; done) | (simp; omega))) _ | with_reducible refine Mod.call0 ?_ (by with_reducible assumption) | with_reducible refine Mod.call ?_ (by with_reducible assumption) (by first | (rintro _ rfl; first | exact .inl rfl | (right; (first | omega | (simp; done) | (simp; omega)))) | (rintro _ (rfl | rfl) <;> (right; (first | omega | (simp; done) | (simp; omega)))))))⟩
  case round =>
    obtain ⟨k, l, rfl, hk, hP, hperm, hheap, hmr⟩ := hrel
    have hsz := hmr.size
    have hlen : l.length ≤ k := by rw [hperm.length_eq]; exact qto_length _ _ _
    by_cases hlt : k < n
    · obtain ⟨b, o, rfl, hb, hc⟩ := reads_cell HR.out hB hmr hlt
      have hbr : b < wr.heap.size := by omega
      by_cases e : (k : Int) = but
      · subst e
        have hq : qto pt (k : Int) (k + 1) = qto pt (k : Int) k := by rw [qto, if_pos rfl]
        have HQ := hide hq
        clear hq
        go_wp2
        exact ⟨⟨k + 1, l, by go_num, by omega, hP, by rw [HQ.out]; exact hperm, hheap, hmr⟩, by simp [intOf] <;> omega⟩
      · have hq : qto pt but (k + 1) = qto pt but k ++ [((k : Int), pt.getD k 0)] := by rw [qto, if_neg e]
        have HQ := hide hq
        have e' : ((k : Int) != but) = true := by simp [e]
        clear hq
        generalize hx : pt.getD k 0 = x at hc HQ
        go_wp2_with fail
        (with_reducible refine (hpush_calls w.heap.size (w.heap.size + 1) l ((k : Int), x) wr hP (by omega) hsz hheap).mono ?_)
        rintro e w5 ⟨rfl, ⟨l', h5, hp5, hh5⟩, hm5⟩
        go_wp2
        exact ⟨⟨k + 1, l', by go_num, by omega, h5, by rw [HQ.out]; exact hp5.trans (hperm.append_right _), hh5, hmr.trans hm5⟩, by simp [intOf] <;> omega⟩
    · obtain rfl : n = k := by omega
      go_wp2
      go_ret
      exact ⟨_, l, rfl, hP, hperm, hheap, (Mod.refl nowhere w).call hmr fun i hi => .inr hi⟩
end Go.Proofs.Ytffeidjalphemaa
