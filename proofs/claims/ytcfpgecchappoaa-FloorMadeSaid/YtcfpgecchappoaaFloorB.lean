/- A copy of bytes. -/
import Derived.Test.YtcfpgecchappoaaFloorA
import Derived.Test.YtcfpgecchappoaaCells9
namespace Go.Proofs.Ytcfpgecchappoaa
open Go.RowKit

theorem ainfo_u8 : (Try.prog.info? 5).map (fun i => (i.zero, i.size, i.bytes)) = some (some (.int .u8 0), 1, 1) := by kernel_rfl
theorem emptyRow (w : World) (E : TypeId) : (w.alloc (.cells #[] E)).ownsRow 0 E 1 (.slice (some ⟨w.heap.size, 0, none⟩) 0 0) 0 [] :=
  ⟨rfl, .inr ⟨w.heap.size, 0, #[], rfl, Nat.zero_le _, Blk.new w E #[], Nat.le_refl _, by unfold maxLen; omega, rfl, rfl⟩⟩
set_option maxRecDepth 100000 in
set_option maxHeartbeats 2000000 in
theorem clone_calls (A : Option Addr) (n c : Nat) (l : List Int) (w : World) (hr : Reads w w.heap.size 1 A n (l.map (Value.int .u8))) (hl : l.length = n) (hn : n ≤ 1000) :
    Calls Try.prog 44 #[.slice A n c] w fun e w' => ∃ z, e = .returned z ∧ LocRow w' w.heap.size 5 1 z n (l.map (Value.int .u8)) ∧ Mod nowhere w w' := by
  have qT : ∀ (w : World) (a : Option Addr) (n c n' c' : Nat), (binOp .eql 22 (.slice a n c) (.slice none n' c')).run Try.prog w = .ok (.bool a.isNone) w := fun w a n c n' c' => Lib.run_eql_slice_nil w 22 5 a n c n' c' Try.underlying22
  cases A with
  | none =>
    have h0 : n = 0 := by
      by_cases h : 0 < n
      · obtain ⟨ad, h1, -⟩ := hr.2 h; cases h1
      · omega
    subst h0
    obtain rfl : l = [] := List.length_eq_zero_iff.1 hl
    go_enter Try.func44, Try.ntmps44
    go_wp2
    go_ret
    exact ⟨_, rfl, LocRow.nil _ _ _ _, (by repeat (first | with_reducible exact Mod.refl _ _ | with_reducible assumption | with_reducible refine Mod.alloc ?_ _ | with_reducible refine Mod.drew ?_ | with_reducible refine Mod.drewN ?_ _ | with_reducible refine Mod.setCell ?_ (by first | exact .inl rfl | (left; (try unfold from_); show _ ≤ _; first | omega | (simp; done) | (simp; omega)) | (right; first | omega | (simp; done) | (simp; omega))) _ | with_reducible refine Mod.call0 ?_ (by with_reducible assumption) | with_reducible refine Mod.call ?_ (by with_reducible assumption) (by first | (rintro _ rfl; first | exact .inl rfl | (right; (first | omega | (simp; done) | (simp; omega)))) | (rintro _ (rfl | rfl) <;> (right; (first | omega | (simp; done) | (simp; omega)))))))⟩
  | some ad =>
    by_cases h0 : 0 < n
    · obtain ⟨b, o, e, hb, hc⟩ := hr.form h0 (by omega)
      obtain rfl : ad = ⟨b, o, none⟩ := Option.some.inj e
      obtain ⟨i0, hi, hz0, hz1, hz2⟩ := info_parts ainfo_u8
      have HL := hide hl
      have HC := hide hc
      clear hl hc hr e
      go_enter Try.func44, Try.ntmps44
      go_wp2_with (at_builtin; (refine wpList_append_lies _ rfl _ _ _ rfl 0 5 i0 (.int .u8 0) 1 1 Try.underlying22 hi hz0 hz1 hz2 (by rfl) (by omega) (.slice (some ⟨w.heap.size, 0, none⟩) 0 0) 0 [] (by rfl) (emptyRow _ _) ⟨b, o, none⟩ n c (l.map (Value.int .u8)) (by rfl) (by rw [List.length_map, HL.out]; omega) (fun j u hu => by rw [Addr.add_lit]; exact (((Mod.refl nowhere w).alloc _).cell (o + j) hb id).trans (HC.out j u hu)) (by intro u hu; simp only [List.mem_map] at hu; obtain ⟨x, -, rfl⟩ := hu; rfl) (by omega) (by unfold maxLen; omega) (by omega) (Nat.zero_le _) (w.heap.size + 1) (by simp) ?_); rintro q1 cap1 w3 hown hgrow hat hlt)
      have hq1 : w.heap.size ≤ q1 := by rcases hat with hh | hh <;> first | omega | (simp [Value.ownBlock] at hh; omega)
      simp only [Nat.zero_add, List.nil_append] at hown
      have m3 : Mod (· = w.heap.size) (w.alloc (.cells #[] 5)) w3 := (Mod.of_grown hgrow).mono fun b hb => by simpa [Value.ownBlock] using hb
      go_ret
      exact ⟨_, rfl, ⟨_, _, rfl, hown, .inr ⟨q1, rfl, hq1⟩⟩, ((Mod.refl nowhere w).alloc _).call m3 (fun i hi => .inr (by omega))⟩
    · have h00 : n = 0 := by omega
      subst h00
      obtain rfl : l = [] := List.length_eq_zero_iff.1 hl
      clear h0 hr
      go_enter Try.func44, Try.ntmps44
      go_wp2
      go_ret
      exact ⟨_, rfl, ⟨_, _, rfl, emptyRow _ _, .inr ⟨_, rfl, Nat.le_refl _⟩⟩, (by repeat (first | with_reducible exact Mod.refl _ _ | with_reducible assumption | with_reducible refine Mod.alloc ?_ _ | with_reducible refine Mod.drew ?_ | with_reducible refine Mod.drewN ?_ _ | with_reducible refine Mod.setCell ?_ (by first | exact .inl rfl | (left; (try unfold from_); show _ ≤ _; first | omega | (simp; done) | (simp; omega)) | (right; first | omega | (simp; done) | (simp; omega))) _ | with_reducible refine Mod.call0 ?_ (by with_reducible assumption) | with_reducible refine Mod.call ?_ (by with_reducible assumption) (by first | (rintro _ rfl; first | exact .inl rfl | (right; (first | omega | (simp; done) | (simp; omega)))) | (rintro _ (rfl | rfl) <;> (right; (first | omega | (simp; done) | (simp; omega)))))))⟩
end Go.Proofs.Ytcfpgecchappoaa
