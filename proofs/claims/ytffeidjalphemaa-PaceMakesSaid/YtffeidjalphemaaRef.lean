/- The document's can and Make, walked. -/
import Derived.Test.YtffeidjalphemaaPaceB
namespace Go.Proofs.Ytffeidjalphemaa
open Go.RowKit

def canF (pt : List Int) (p k : Nat) (t : Nat) : Bool := decide (t ≠ p) && decide (pt.getD t 0 - 1 < (k : Int))
set_option maxRecDepth 100000 in
set_option maxHeartbeats 4000000 in
theorem refcan_calls (A : Option Addr) (n c B p : Nat) (pt : List Int) (w : World) (hr : Reads w B 1 A n (pt.map (Value.int .i64))) (hB : B ≤ w.heap.size) (hn : n ≤ 100) (hpt : ∀ t, t < n → -1000000 ≤ pt.getD t 0 ∧ pt.getD t 0 ≤ 9223372036854775807) :
    Calls Try.prog 21 #[.slice A n c, .int .i64 p] w fun e w' => e = .returned (.bool (decide (CanP (qto pt (p : Int) n)))) ∧ Mod nowhere w w' := by
  have HR := hide hr
  have HPT := hide hpt
  clear hr hpt
  go_enter Try.func21, Try.ntmps21
  go_wp2_with fail
  go_loopw [5, 6, 7] (fun s5 _ _ wx => ∃ (k : Nat), s5 = .int .i64 k ∧ k ≤ n ∧ (∀ m, m < k → cnt (canF pt p m) n ≤ m) ∧ Mod nowhere w wx) (fun s5 _ _ _ => (300 - (intOf s5)).toNat)
  case atStart => exact ⟨0, rfl, Nat.zero_le _, fun m hm => absurd hm (by omega), Mod.refl _ _⟩
  case round =>
    obtain ⟨k, rfl, hk, hc, hmr⟩ := hrel
    have HC := hide hc
    clear hc
    by_cases hkn : k < n
    · have hkn' : (k : Int) < (n : Int) := by omega
      go_wp2_with fail
      go_loopw [6, 7] (fun s6 s7 wx => ∃ (t : Nat), s7 = .int .i64 t ∧ t ≤ n ∧ s6 = .int .i64 (cnt (canF pt p k) t) ∧ Mod nowhere w wx) (fun _ s7 _ => (300 - (intOf s7)).toNat)
      case atStart => exact ⟨0, rfl, Nat.zero_le _, rfl, hmr⟩
      case round =>
        clear hmr
        obtain ⟨t, rfl, ht, rfl, hmr⟩ := hrel
        have hle := cnt_le (canF pt p k) t
        by_cases htn : t < n
        · have htn' : (t : Int) < (n : Int) := by omega
          obtain ⟨b, o, hAe, hb, hcell⟩ := reads_cell HR.out hB (hmr.mono fun _ x => x.elim) htn
          subst hAe
          have hbd := HPT.out t htn
          have hs : cnt (canF pt p k) (t + 1) = cnt (canF pt p k) t + (if canF pt p k t then 1 else 0) := rfl
          have HS := hide hs
          clear hs
          by_cases e : t = p
          · subst e
            have hf : canF pt t k t = false := by simp [canF]
            have HF := hide hf
            clear hf
            generalize hcn : cnt (canF pt t k) t = cn at *
            go_wp2
            go_roundw
            case rel => exact ⟨t + 1, by go_num, by omega, by rw [HS.out, HF.out]; simp, hmr⟩
            case measure => simp [intOf] <;> omega
          · have e' : ((t : Int) != (p : Int)) = true := by simp; omega
            generalize hgv : pt.getD t 0 = gv at hcell hbd
            by_cases e2 : gv - 1 < (k : Int)
            · have hf : canF pt p k t = true := by simp only [canF, hgv]; simp [e, e2]
              have HF := hide hf
              clear hf
              generalize hcn : cnt (canF pt p k) t = cn at *
              go_wp2
              go_roundw
              case rel => exact ⟨t + 1, by go_num, by omega, by rw [HS.out, HF.out]; simp, hmr⟩
              case measure => simp [intOf] <;> omega
            · have hf : canF pt p k t = false := by simp only [canF, hgv]; simp [e2]
              have HF := hide hf
              clear hf
              generalize hcn : cnt (canF pt p k) t = cn at *
              go_wp2
              go_roundw
              case rel => exact ⟨t + 1, by go_num, by omega, by rw [HS.out, HF.out]; simp, hmr⟩
              case measure => simp [intOf] <;> omega
        · obtain rfl : n = t := by omega
          by_cases hgt : k < cnt (canF pt p k) n
          · have hno : ¬ CanP (qto pt (p : Int) n) := fun h => by
              have := (canP_iff pt n p).1 h k
              have e : cnt (canF pt p k) n = _ := rfl
              unfold canF at hgt
              omega
            have HNO := hide hno
            clear hno
            have hgt' : (k : Int) < (cnt (canF pt p k) n : Int) := by omega
            go_wp2
            go_ret
            exact ⟨by rw [decide_eq_false HNO.out]; rfl, hmr⟩
          · have hgt' : ¬ (k : Int) < (cnt (canF pt p k) n : Int) := by omega
            have HG := hide hgt
            clear hgt
            go_wp2
            go_roundw
            case rel => exact ⟨k + 1, by go_num, by omega, fun m hm => by
              by_cases e : m = k
              · subst e; have := HG.out; omega
              · exact HC.out m (by omega), hmr⟩
            case measure => simp [intOf] <;> omega
    · obtain rfl : n = k := by omega
      have hyes : CanP (qto pt (p : Int) n) := (canP_iff pt n p).2 fun m => by
        by_cases hm : m < n
        · exact HC.out m hm
        · have := cnt_le (canF pt p m) n
          unfold canF at this
          omega
      have HY := hide hyes
      clear hyes
      go_wp2
      go_ret
      exact ⟨by rw [decide_eq_true HY.out]; rfl, hmr⟩
end Go.Proofs.Ytffeidjalphemaa
