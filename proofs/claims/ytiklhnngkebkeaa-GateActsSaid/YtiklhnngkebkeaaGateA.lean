/- What the functions of package gate do: each by a function of numbers. -/
import Derived.Test.YtiklhnngkebkeaaChoice
import Derived.Test.YtiklhnngkebkeaaWord
import Derived.Deep.RegionLaw
import Derived.IntWalk
namespace Go.Proofs.Ytiklhnngkebkeaa
open Go.RowKit

def IsGate (w : World) (g gw gp : Nat) (n : Nat) (c : Int) (ps : List Int) : Prop :=
  Blk w g 70 #[.pointer (some ⟨gw, 0, none⟩), .slice (some ⟨gp, 0, none⟩) n n] ∧ (∃ acc, IsWord w gw c acc) ∧ Blk w gp 3 (ps.map (Value.int .i64)).toArray ∧ ps.length = n ∧ g ≠ gw ∧ g ≠ gp ∧ gw ≠ gp
theorem IsGate.lt {w : World} {g gw gp n : Nat} {c : Int} {ps : List Int} (h : IsGate w g gw gp n c ps) : g < w.heap.size ∧ gw < w.heap.size ∧ gp < w.heap.size :=
  ⟨h.1.lt, h.2.1.elim fun _ h => h.lt, h.2.2.1.lt⟩
theorem IsGate.keep {S : Nat → Prop} {w w' : World} {g gw gp n : Nat} {c : Int} {ps : List Int} (h : IsGate w g gw gp n c ps) (hm : Mod S w w') (h1 : ¬ S g) (h2 : ¬ S gw) (h3 : ¬ S gp) : IsGate w' g gw gp n c ps :=
  ⟨h.1.keep hm h1, h.2.1.elim fun a h => ⟨a, h.keep hm h2⟩, h.2.2.1.keep hm h3, h.2.2.2⟩
theorem IsGate.keep0 {w w' : World} {g gw gp n : Nat} {c : Int} {ps : List Int} (h : IsGate w g gw gp n c ps) (hm : Mod nowhere w w') : IsGate w' g gw gp n c ps := h.keep hm id id id
theorem IsGate.drew {w : World} {g gw gp n : Nat} {c : Int} {ps : List Int} (h : IsGate w g gw gp n c ps) : IsGate w.drew g gw gp n c ps := h
theorem IsGate.alloc {w : World} {g gw gp n : Nat} {c : Int} {ps : List Int} (h : IsGate w g gw gp n c ps) (o : Obj) : IsGate (w.alloc o) g gw gp n c ps := h.keep0 ((Mod.refl _ _).alloc o)

/-! ### is, code -/
theorem is_nil (t : Int) (w : World) :
    Calls Try.prog 29 #[.pointer none, .int .i64 t] w fun e w' => e = .returned (.bool false) ∧ w = w' := by
  go_enter Try.func29, Try.ntmps29
  go_wp2
  go_ret
  exact ⟨rfl, rfl⟩
theorem is_yes (t : Int) (g : Nat) (A : Option Addr) (u : Value) (n : Nat) (w : World) (h : Blk w g 70 #[u, .slice A n n]) (h0 : 0 ≤ t) (h1 : t < n) :
    Calls Try.prog 29 #[.pointer (some ⟨g, 0, none⟩), .int .i64 t] w fun e w' => e = .returned (.bool true) ∧ w = w' := by
  have c1 := (h.cell 1).trans rfl
  go_enter Try.func29, Try.ntmps29
  go_wp2
  go_ret
  exact ⟨rfl, rfl⟩
theorem is_no (t : Int) (g : Nat) (A : Option Addr) (u : Value) (n : Nat) (w : World) (h : Blk w g 70 #[u, .slice A n n]) (ht : t < 0 ∨ (n : Int) ≤ t) :
    Calls Try.prog 29 #[.pointer (some ⟨g, 0, none⟩), .int .i64 t] w fun e w' => e = .returned (.bool false) ∧ w = w' := by
  have c1 := (h.cell 1).trans rfl
  by_cases h0 : t < 0
  · have e1 : decide (0 ≤ t) = false := by simp; omega
    go_enter Try.func29, Try.ntmps29
    go_wp2
    go_ret
    exact ⟨rfl, rfl⟩
  · have e1 : decide (t < (n : Int)) = false := by simp; omega
    go_enter Try.func29, Try.ntmps29
    go_wp2
    go_ret
    exact ⟨rfl, rfl⟩
theorem code_none (s t : Int) (w : World) :
    Calls Try.prog 31 #[.bool false, .int .i64 s, .int .i64 t] w fun e w' => e = .returned (.int .i64 0) ∧ w = w' := by
  go_enter Try.func31, Try.ntmps31
  go_wp2
  go_ret
  exact ⟨rfl, rfl⟩
theorem code_some (s t : Int) (w : World) (h0 : 0 ≤ s) (h1 : s ≤ 1099511627776) (h2 : 0 ≤ t) (h3 : t < 8) :
    Calls Try.prog 31 #[.bool true, .int .i64 s, .int .i64 t] w fun e w' => e = .returned (.int .i64 (s * 8 + t + 1)) ∧ w = w' := by
  go_enter Try.func31, Try.ntmps31
  go_wp2
  go_ret
  exact ⟨rfl, rfl⟩

/-! ### New -/
theorem gnew_bad (n : Int) (w : World) (h : n < 1 ∨ 6 < n) :
    Calls Try.prog 13 #[.int .i64 n] w fun e w' => e = .returned (.tuple #[.pointer none, .int .i64 2]) ∧ Mod nowhere w w' := by
  go_enter Try.func13, Try.ntmps13
  go_wp2
  all_goals first | (exfalso; omega) | skip
  all_goals go_ret2
  all_goals exact ⟨rfl, (by repeat (first | with_reducible exact Mod.refl _ _ | with_reducible assumption | with_reducible refine Mod.alloc ?_ _ | with_reducible refine Mod.drew ?_ | with_reducible refine Mod.drewN ?_ _ | with_reducible refine Mod.setCell ?_ (by first | exact .inl rfl | (left; (try unfold from_); show _ ≤ _; first | omega | (simp; done) | (simp; omega)) | (right; first | omega | (simp; done) | (simp; omega))) _ | with_reducible refine Mod.call0 ?_ (by with_reducible assumption) | with_reducible refine Mod.call ?_ (by with_reducible assumption) (by first | (rintro _ rfl; first | exact .inl rfl | (right; (first | omega | (simp; done) | (simp; omega)))) | (rintro _ (rfl | rfl) <;> (right; (first | omega | (simp; done) | (simp; omega)))))))⟩
def NewGate (w w' : World) (n : Nat) (e : Ending) : Prop := ∃ g gw gp, e = .returned (.tuple #[.pointer (some ⟨g, 0, none⟩), .int .i64 0]) ∧ IsGate w' g gw gp n 0 (List.replicate n 0) ∧ w.heap.size ≤ g ∧ w.heap.size ≤ gw ∧ w.heap.size ≤ gp ∧ Mod nowhere w w'
set_option maxHeartbeats 400000 in
theorem gnew_1 (w : World) : Calls Try.prog 13 #[.int .i64 1] w fun e w' => NewGate w w' 1 e := by
  have hmk : ∀ w : World, (Instr.makeSlice 49 (.int .i64 1) (.int .i64 1)).run Try.prog w = .ok (.slice (some ⟨w.heap.size, 0, none⟩) 1 1) (w.alloc (.cells #[.int .i64 0] 3)) := fun _ => by kernel_rfl
  go_enter Try.func13, Try.ntmps13
  go_wp2
  go_region_held3 (fun w' => Mod nowhere w w') ((repeat' apply And.intro) <;> first | (simp [*]; done) | (go_simp; done) | exact (by repeat (first | with_reducible exact Mod.refl _ _ | with_reducible assumption | with_reducible refine Mod.alloc ?_ _ | with_reducible refine Mod.drew ?_ | with_reducible refine Mod.drewN ?_ _ | with_reducible refine Mod.setCell ?_ (by first | exact .inl rfl | (left; (try unfold from_); show _ ≤ _; first | omega | (simp; done) | (simp; omega)) | (right; first | omega | (simp; done) | (simp; omega))) _ | with_reducible refine Mod.call0 ?_ (by with_reducible assumption) | with_reducible refine Mod.call ?_ (by with_reducible assumption) (by first | (rintro _ rfl; first | exact .inl rfl | (right; (first | omega | (simp; done) | (simp; omega)))) | (rintro _ (rfl | rfl) <;> (right; (first | omega | (simp; done) | (simp; omega)))))))) ((go_at_call 27; (with_reducible refine (of_calls _ _).mono ?_); rintro e w' ⟨rfl, rfl⟩))
  all_goals
    go_wp2
    go_ret2
    refine ⟨_, _, _, rfl, ⟨(by repeat (first | with_reducible assumption | with_reducible apply Blk.new | with_reducible exact Blk.newAt (by first | rfl | (simp; done) | (simp; omega)) | with_reducible apply Blk.alloc | with_reducible apply Blk.drew | with_reducible apply Blk.drewN | with_reducible apply Blk.keep0 (hm := by with_reducible assumption) | with_reducible apply Blk.keep (hm := by with_reducible assumption) (hg := by first | omega | exact not_two (by omega) (by omega)) | with_reducible apply Blk.far (hp := by first | omega | (simp; done) | (simp; omega)) | with_reducible apply Blk.set1 | rfl)), ⟨0, (by repeat (first | with_reducible assumption | with_reducible apply Blk.new | with_reducible exact Blk.newAt (by first | rfl | (simp; done) | (simp; omega)) | with_reducible apply Blk.alloc | with_reducible apply Blk.drew | with_reducible apply Blk.drewN | with_reducible apply Blk.keep0 (hm := by with_reducible assumption) | with_reducible apply Blk.keep (hm := by with_reducible assumption) (hg := by first | omega | exact not_two (by omega) (by omega)) | with_reducible apply Blk.far (hp := by first | omega | (simp; done) | (simp; omega)) | with_reducible apply Blk.set1 | rfl))⟩, ?_, rfl, by first | omega | (simp; done) | (simp; omega), by first | omega | (simp; done) | (simp; omega), by first | omega | (simp; done) | (simp; omega)⟩, by first | omega | (simp; done) | (simp; omega), by first | omega | (simp; done) | (simp; omega), by first | omega | (simp; done) | (simp; omega), (by repeat (first | with_reducible exact Mod.refl _ _ | with_reducible assumption | with_reducible refine Mod.alloc ?_ _ | with_reducible refine Mod.drew ?_ | with_reducible refine Mod.drewN ?_ _ | with_reducible refine Mod.setCell ?_ (by first | exact .inl rfl | (left; (try unfold from_); show _ ≤ _; first | omega | (simp; done) | (simp; omega)) | (right; first | omega | (simp; done) | (simp; omega))) _ | with_reducible refine Mod.call0 ?_ (by with_reducible assumption) | with_reducible refine Mod.call ?_ (by with_reducible assumption) (by first | (rintro _ rfl; first | exact .inl rfl | (right; (first | omega | (simp; done) | (simp; omega)))) | (rintro _ (rfl | rfl) <;> (right; (first | omega | (simp; done) | (simp; omega)))))))⟩
    show Blk _ _ _ #[.int .i64 0]
    exact (by repeat (first | with_reducible assumption | with_reducible apply Blk.new | with_reducible exact Blk.newAt (by first | rfl | (simp; done) | (simp; omega)) | with_reducible apply Blk.alloc | with_reducible apply Blk.drew | with_reducible apply Blk.drewN | with_reducible apply Blk.keep0 (hm := by with_reducible assumption) | with_reducible apply Blk.keep (hm := by with_reducible assumption) (hg := by first | omega | exact not_two (by omega) (by omega)) | with_reducible apply Blk.far (hp := by first | omega | (simp; done) | (simp; omega)) | with_reducible apply Blk.set1 | rfl))
set_option maxHeartbeats 400000 in
theorem gnew_2 (w : World) : Calls Try.prog 13 #[.int .i64 2] w fun e w' => NewGate w w' 2 e := by
  have hmk : ∀ w : World, (Instr.makeSlice 49 (.int .i64 2) (.int .i64 2)).run Try.prog w = .ok (.slice (some ⟨w.heap.size, 0, none⟩) 2 2) (w.alloc (.cells #[.int .i64 0, .int .i64 0] 3)) := fun _ => by kernel_rfl
  go_enter Try.func13, Try.ntmps13
  go_wp2
  go_region_held3 (fun w' => Mod nowhere w w') ((repeat' apply And.intro) <;> first | (simp [*]; done) | (go_simp; done) | exact (by repeat (first | with_reducible exact Mod.refl _ _ | with_reducible assumption | with_reducible refine Mod.alloc ?_ _ | with_reducible refine Mod.drew ?_ | with_reducible refine Mod.drewN ?_ _ | with_reducible refine Mod.setCell ?_ (by first | exact .inl rfl | (left; (try unfold from_); show _ ≤ _; first | omega | (simp; done) | (simp; omega)) | (right; first | omega | (simp; done) | (simp; omega))) _ | with_reducible refine Mod.call0 ?_ (by with_reducible assumption) | with_reducible refine Mod.call ?_ (by with_reducible assumption) (by first | (rintro _ rfl; first | exact .inl rfl | (right; (first | omega | (simp; done) | (simp; omega)))) | (rintro _ (rfl | rfl) <;> (right; (first | omega | (simp; done) | (simp; omega)))))))) ((go_at_call 27; (with_reducible refine (of_calls _ _).mono ?_); rintro e w' ⟨rfl, rfl⟩))
  all_goals
    go_wp2
    go_ret2
    refine ⟨_, _, _, rfl, ⟨(by repeat (first | with_reducible assumption | with_reducible apply Blk.new | with_reducible exact Blk.newAt (by first | rfl | (simp; done) | (simp; omega)) | with_reducible apply Blk.alloc | with_reducible apply Blk.drew | with_reducible apply Blk.drewN | with_reducible apply Blk.keep0 (hm := by with_reducible assumption) | with_reducible apply Blk.keep (hm := by with_reducible assumption) (hg := by first | omega | exact not_two (by omega) (by omega)) | with_reducible apply Blk.far (hp := by first | omega | (simp; done) | (simp; omega)) | with_reducible apply Blk.set1 | rfl)), ⟨0, (by repeat (first | with_reducible assumption | with_reducible apply Blk.new | with_reducible exact Blk.newAt (by first | rfl | (simp; done) | (simp; omega)) | with_reducible apply Blk.alloc | with_reducible apply Blk.drew | with_reducible apply Blk.drewN | with_reducible apply Blk.keep0 (hm := by with_reducible assumption) | with_reducible apply Blk.keep (hm := by with_reducible assumption) (hg := by first | omega | exact not_two (by omega) (by omega)) | with_reducible apply Blk.far (hp := by first | omega | (simp; done) | (simp; omega)) | with_reducible apply Blk.set1 | rfl))⟩, ?_, rfl, by first | omega | (simp; done) | (simp; omega), by first | omega | (simp; done) | (simp; omega), by first | omega | (simp; done) | (simp; omega)⟩, by first | omega | (simp; done) | (simp; omega), by first | omega | (simp; done) | (simp; omega), by first | omega | (simp; done) | (simp; omega), (by repeat (first | with_reducible exact Mod.refl _ _ | with_reducible assumption | with_reducible refine Mod.alloc ?_ _ | with_reducible refine Mod.drew ?_ | with_reducible refine Mod.drewN ?_ _ | with_reducible refine Mod.setCell ?_ (by first | exact .inl rfl | (left; (try unfold from_); show _ ≤ _; first | omega | (simp; done) | (simp; omega)) | (right; first | omega | (simp; done) | (simp; omega))) _ | with_reducible refine Mod.call0 ?_ (by with_reducible assumption) | with_reducible refine Mod.call ?_ (by with_reducible assumption) (by first | (rintro _ rfl; first | exact .inl rfl | (right; (first | omega | (simp; done) | (simp; omega)))) | (rintro _ (rfl | rfl) <;> (right; (first | omega | (simp; done) | (simp; omega)))))))⟩
    show Blk _ _ _ #[.int .i64 0, .int .i64 0]
    exact (by repeat (first | with_reducible assumption | with_reducible apply Blk.new | with_reducible exact Blk.newAt (by first | rfl | (simp; done) | (simp; omega)) | with_reducible apply Blk.alloc | with_reducible apply Blk.drew | with_reducible apply Blk.drewN | with_reducible apply Blk.keep0 (hm := by with_reducible assumption) | with_reducible apply Blk.keep (hm := by with_reducible assumption) (hg := by first | omega | exact not_two (by omega) (by omega)) | with_reducible apply Blk.far (hp := by first | omega | (simp; done) | (simp; omega)) | with_reducible apply Blk.set1 | rfl))
set_option maxHeartbeats 400000 in
theorem gnew_3 (w : World) : Calls Try.prog 13 #[.int .i64 3] w fun e w' => NewGate w w' 3 e := by
  have hmk : ∀ w : World, (Instr.makeSlice 49 (.int .i64 3) (.int .i64 3)).run Try.prog w = .ok (.slice (some ⟨w.heap.size, 0, none⟩) 3 3) (w.alloc (.cells #[.int .i64 0, .int .i64 0, .int .i64 0] 3)) := fun _ => by kernel_rfl
  go_enter Try.func13, Try.ntmps13
  go_wp2
  go_region_held3 (fun w' => Mod nowhere w w') ((repeat' apply And.intro) <;> first | (simp [*]; done) | (go_simp; done) | exact (by repeat (first | with_reducible exact Mod.refl _ _ | with_reducible assumption | with_reducible refine Mod.alloc ?_ _ | with_reducible refine Mod.drew ?_ | with_reducible refine Mod.drewN ?_ _ | with_reducible refine Mod.setCell ?_ (by first | exact .inl rfl | (left; (try unfold from_); show _ ≤ _; first | omega | (simp; done) | (simp; omega)) | (right; first | omega | (simp; done) | (simp; omega))) _ | with_reducible refine Mod.call0 ?_ (by with_reducible assumption) | with_reducible refine Mod.call ?_ (by with_reducible assumption) (by first | (rintro _ rfl; first | exact .inl rfl | (right; (first | omega | (simp; done) | (simp; omega)))) | (rintro _ (rfl | rfl) <;> (right; (first | omega | (simp; done) | (simp; omega)))))))) ((go_at_call 27; (with_reducible refine (of_calls _ _).mono ?_); rintro e w' ⟨rfl, rfl⟩))
  all_goals
    go_wp2
    go_ret2
    refine ⟨_, _, _, rfl, ⟨(by repeat (first | with_reducible assumption | with_reducible apply Blk.new | with_reducible exact Blk.newAt (by first | rfl | (simp; done) | (simp; omega)) | with_reducible apply Blk.alloc | with_reducible apply Blk.drew | with_reducible apply Blk.drewN | with_reducible apply Blk.keep0 (hm := by with_reducible assumption) | with_reducible apply Blk.keep (hm := by with_reducible assumption) (hg := by first | omega | exact not_two (by omega) (by omega)) | with_reducible apply Blk.far (hp := by first | omega | (simp; done) | (simp; omega)) | with_reducible apply Blk.set1 | rfl)), ⟨0, (by repeat (first | with_reducible assumption | with_reducible apply Blk.new | with_reducible exact Blk.newAt (by first | rfl | (simp; done) | (simp; omega)) | with_reducible apply Blk.alloc | with_reducible apply Blk.drew | with_reducible apply Blk.drewN | with_reducible apply Blk.keep0 (hm := by with_reducible assumption) | with_reducible apply Blk.keep (hm := by with_reducible assumption) (hg := by first | omega | exact not_two (by omega) (by omega)) | with_reducible apply Blk.far (hp := by first | omega | (simp; done) | (simp; omega)) | with_reducible apply Blk.set1 | rfl))⟩, ?_, rfl, by first | omega | (simp; done) | (simp; omega), by first | omega | (simp; done) | (simp; omega), by first | omega | (simp; done) | (simp; omega)⟩, by first | omega | (simp; done) | (simp; omega), by first | omega | (simp; done) | (simp; omega), by first | omega | (simp; done) | (simp; omega), (by repeat (first | with_reducible exact Mod.refl _ _ | with_reducible assumption | with_reducible refine Mod.alloc ?_ _ | with_reducible refine Mod.drew ?_ | with_reducible refine Mod.drewN ?_ _ | with_reducible refine Mod.setCell ?_ (by first | exact .inl rfl | (left; (try unfold from_); show _ ≤ _; first | omega | (simp; done) | (simp; omega)) | (right; first | omega | (simp; done) | (simp; omega))) _ | with_reducible refine Mod.call0 ?_ (by with_reducible assumption) | with_reducible refine Mod.call ?_ (by with_reducible assumption) (by first | (rintro _ rfl; first | exact .inl rfl | (right; (first | omega | (simp; done) | (simp; omega)))) | (rintro _ (rfl | rfl) <;> (right; (first | omega | (simp; done) | (simp; omega)))))))⟩
    show Blk _ _ _ #[.int .i64 0, .int .i64 0, .int .i64 0]
    exact (by repeat (first | with_reducible assumption | with_reducible apply Blk.new | with_reducible exact Blk.newAt (by first | rfl | (simp; done) | (simp; omega)) | with_reducible apply Blk.alloc | with_reducible apply Blk.drew | with_reducible apply Blk.drewN | with_reducible apply Blk.keep0 (hm := by with_reducible assumption) | with_reducible apply Blk.keep (hm := by with_reducible assumption) (hg := by first | omega | exact not_two (by omega) (by omega)) | with_reducible apply Blk.far (hp := by first | omega | (simp; done) | (simp; omega)) | with_reducible apply Blk.set1 | rfl))
set_option maxHeartbeats 400000 in
theorem gnew_4 (w : World) : Calls Try.prog 13 #[.int .i64 4] w fun e w' => NewGate w w' 4 e := by
  have hmk : ∀ w : World, (Instr.makeSlice 49 (.int .i64 4) (.int .i64 4)).run Try.prog w = .ok (.slice (some ⟨w.heap.size, 0, none⟩) 4 4) (w.alloc (.cells #[.int .i64 0, .int .i64 0, .int .i64 0, .int .i64 0] 3)) := fun _ => by kernel_rfl
  go_enter Try.func13, Try.ntmps13
  go_wp2
  go_region_held3 (fun w' => Mod nowhere w w') ((repeat' apply And.intro) <;> first | (simp [*]; done) | (go_simp; done) | exact (by repeat (first | with_reducible exact Mod.refl _ _ | with_reducible assumption | with_reducible refine Mod.alloc ?_ _ | with_reducible refine Mod.drew ?_ | with_reducible refine Mod.drewN ?_ _ | with_reducible refine Mod.setCell ?_ (by first | exact .inl rfl | (left; (try unfold from_); show _ ≤ _; first | omega | (simp; done) | (simp; omega)) | (right; first | omega | (simp; done) | (simp; omega))) _ | with_reducible refine Mod.call0 ?_ (by with_reducible assumption) | with_reducible refine Mod.call ?_ (by with_reducible assumption) (by first | (rintro _ rfl; first | exact .inl rfl | (right; (first | omega | (simp; done) | (simp; omega)))) | (rintro _ (rfl | rfl) <;> (right; (first | omega | (simp; done) | (simp; omega)))))))) ((go_at_call 27; (with_reducible refine (of_calls _ _).mono ?_); rintro e w' ⟨rfl, rfl⟩))
  all_goals
    go_wp2
    go_ret2
    refine ⟨_, _, _, rfl, ⟨(by repeat (first | with_reducible assumption | with_reducible apply Blk.new | with_reducible exact Blk.newAt (by first | rfl | (simp; done) | (simp; omega)) | with_reducible apply Blk.alloc | with_reducible apply Blk.drew | with_reducible apply Blk.drewN | with_reducible apply Blk.keep0 (hm := by with_reducible assumption) | with_reducible apply Blk.keep (hm := by with_reducible assumption) (hg := by first | omega | exact not_two (by omega) (by omega)) | with_reducible apply Blk.far (hp := by first | omega | (simp; done) | (simp; omega)) | with_reducible apply Blk.set1 | rfl)), ⟨0, (by repeat (first | with_reducible assumption | with_reducible apply Blk.new | with_reducible exact Blk.newAt (by first | rfl | (simp; done) | (simp; omega)) | with_reducible apply Blk.alloc | with_reducible apply Blk.drew | with_reducible apply Blk.drewN | with_reducible apply Blk.keep0 (hm := by with_reducible assumption) | with_reducible apply Blk.keep (hm := by with_reducible assumption) (hg := by first | omega | exact not_two (by omega) (by omega)) | with_reducible apply Blk.far (hp := by first | omega | (simp; done) | (simp; omega)) | with_reducible apply Blk.set1 | rfl))⟩, ?_, rfl, by first | omega | (simp; done) | (simp; omega), by first | omega | (simp; done) | (simp; omega), by first | omega | (simp; done) | (simp; omega)⟩, by first | omega | (simp; done) | (simp; omega), by first | omega | (simp; done) | (simp; omega), by first | omega | (simp; done) | (simp; omega), (by repeat (first | with_reducible exact Mod.refl _ _ | with_reducible assumption | with_reducible refine Mod.alloc ?_ _ | with_reducible refine Mod.drew ?_ | with_reducible refine Mod.drewN ?_ _ | with_reducible refine Mod.setCell ?_ (by first | exact .inl rfl | (left; (try unfold from_); show _ ≤ _; first | omega | (simp; done) | (simp; omega)) | (right; first | omega | (simp; done) | (simp; omega))) _ | with_reducible refine Mod.call0 ?_ (by with_reducible assumption) | with_reducible refine Mod.call ?_ (by with_reducible assumption) (by first | (rintro _ rfl; first | exact .inl rfl | (right; (first | omega | (simp; done) | (simp; omega)))) | (rintro _ (rfl | rfl) <;> (right; (first | omega | (simp; done) | (simp; omega)))))))⟩
    show Blk _ _ _ #[.int .i64 0, .int .i64 0, .int .i64 0, .int .i64 0]
    exact (by repeat (first | with_reducible assumption | with_reducible apply Blk.new | with_reducible exact Blk.newAt (by first | rfl | (simp; done) | (simp; omega)) | with_reducible apply Blk.alloc | with_reducible apply Blk.drew | with_reducible apply Blk.drewN | with_reducible apply Blk.keep0 (hm := by with_reducible assumption) | with_reducible apply Blk.keep (hm := by with_reducible assumption) (hg := by first | omega | exact not_two (by omega) (by omega)) | with_reducible apply Blk.far (hp := by first | omega | (simp; done) | (simp; omega)) | with_reducible apply Blk.set1 | rfl))
set_option maxHeartbeats 400000 in
theorem gnew_5 (w : World) : Calls Try.prog 13 #[.int .i64 5] w fun e w' => NewGate w w' 5 e := by
  have hmk : ∀ w : World, (Instr.makeSlice 49 (.int .i64 5) (.int .i64 5)).run Try.prog w = .ok (.slice (some ⟨w.heap.size, 0, none⟩) 5 5) (w.alloc (.cells #[.int .i64 0, .int .i64 0, .int .i64 0, .int .i64 0, .int .i64 0] 3)) := fun _ => by kernel_rfl
  go_enter Try.func13, Try.ntmps13
  go_wp2
  go_region_held3 (fun w' => Mod nowhere w w') ((repeat' apply And.intro) <;> first | (simp [*]; done) | (go_simp; done) | exact (by repeat (first | with_reducible exact Mod.refl _ _ | with_reducible assumption | with_reducible refine Mod.alloc ?_ _ | with_reducible refine Mod.drew ?_ | with_reducible refine Mod.drewN ?_ _ | with_reducible refine Mod.setCell ?_ (by first | exact .inl rfl | (left; (try unfold from_); show _ ≤ _; first | omega | (simp; done) | (simp; omega)) | (right; first | omega | (simp; done) | (simp; omega))) _ | with_reducible refine Mod.call0 ?_ (by with_reducible assumption) | with_reducible refine Mod.call ?_ (by with_reducible assumption) (by first | (rintro _ rfl; first | exact .inl rfl | (right; (first | omega | (simp; done) | (simp; omega)))) | (rintro _ (rfl | rfl) <;> (right; (first | omega | (simp; done) | (simp; omega)))))))) ((go_at_call 27; (with_reducible refine (of_calls _ _).mono ?_); rintro e w' ⟨rfl, rfl⟩))
  all_goals
    go_wp2
    go_ret2
    refine ⟨_, _, _, rfl, ⟨(by repeat (first | with_reducible assumption | with_reducible apply Blk.new | with_reducible exact Blk.newAt (by first | rfl | (simp; done) | (simp; omega)) | with_reducible apply Blk.alloc | with_reducible apply Blk.drew | with_reducible apply Blk.drewN | with_reducible apply Blk.keep0 (hm := by with_reducible assumption) | with_reducible apply Blk.keep (hm := by with_reducible assumption) (hg := by first | omega | exact not_two (by omega) (by omega)) | with_reducible apply Blk.far (hp := by first | omega | (simp; done) | (simp; omega)) | with_reducible apply Blk.set1 | rfl)), ⟨0, (by repeat (first | with_reducible assumption | with_reducible apply Blk.new | with_reducible exact Blk.newAt (by first | rfl | (simp; done) | (simp; omega)) | with_reducible apply Blk.alloc | with_reducible apply Blk.drew | with_reducible apply Blk.drewN | with_reducible apply Blk.keep0 (hm := by with_reducible assumption) | with_reducible apply Blk.keep (hm := by with_reducible assumption) (hg := by first | omega | exact not_two (by omega) (by omega)) | with_reducible apply Blk.far (hp := by first | omega | (simp; done) | (simp; omega)) | with_reducible apply Blk.set1 | rfl))⟩, ?_, rfl, by first | omega | (simp; done) | (simp; omega), by first | omega | (simp; done) | (simp; omega), by first | omega | (simp; done) | (simp; omega)⟩, by first | omega | (simp; done) | (simp; omega), by first | omega | (simp; done) | (simp; omega), by first | omega | (simp; done) | (simp; omega), (by repeat (first | with_reducible exact Mod.refl _ _ | with_reducible assumption | with_reducible refine Mod.alloc ?_ _ | with_reducible refine Mod.drew ?_ | with_reducible refine Mod.drewN ?_ _ | with_reducible refine Mod.setCell ?_ (by first | exact .inl rfl | (left; (try unfold from_); show _ ≤ _; first | omega | (simp; done) | (simp; omega)) | (right; first | omega | (simp; done) | (simp; omega))) _ | with_reducible refine Mod.call0 ?_ (by with_reducible assumption) | with_reducible refine Mod.call ?_ (by with_reducible assumption) (by first | (rintro _ rfl; first | exact .inl rfl | (right; (first | omega | (simp; done) | (simp; omega)))) | (rintro _ (rfl | rfl) <;> (right; (first | omega | (simp; done) | (simp; omega)))))))⟩
    show Blk _ _ _ #[.int .i64 0, .int .i64 0, .int .i64 0, .int .i64 0, .int .i64 0]
    exact (by repeat (first | with_reducible assumption | with_reducible apply Blk.new | with_reducible exact Blk.newAt (by first | rfl | (simp; done) | (simp; omega)) | with_reducible apply Blk.alloc | with_reducible apply Blk.drew | with_reducible apply Blk.drewN | with_reducible apply Blk.keep0 (hm := by with_reducible assumption) | with_reducible apply Blk.keep (hm := by with_reducible assumption) (hg := by first | omega | exact not_two (by omega) (by omega)) | with_reducible apply Blk.far (hp := by first | omega | (simp; done) | (simp; omega)) | with_reducible apply Blk.set1 | rfl))
set_option maxHeartbeats 400000 in
theorem gnew_6 (w : World) : Calls Try.prog 13 #[.int .i64 6] w fun e w' => NewGate w w' 6 e := by
  have hmk : ∀ w : World, (Instr.makeSlice 49 (.int .i64 6) (.int .i64 6)).run Try.prog w = .ok (.slice (some ⟨w.heap.size, 0, none⟩) 6 6) (w.alloc (.cells #[.int .i64 0, .int .i64 0, .int .i64 0, .int .i64 0, .int .i64 0, .int .i64 0] 3)) := fun _ => by kernel_rfl
  go_enter Try.func13, Try.ntmps13
  go_wp2
  go_region_held3 (fun w' => Mod nowhere w w') ((repeat' apply And.intro) <;> first | (simp [*]; done) | (go_simp; done) | exact (by repeat (first | with_reducible exact Mod.refl _ _ | with_reducible assumption | with_reducible refine Mod.alloc ?_ _ | with_reducible refine Mod.drew ?_ | with_reducible refine Mod.drewN ?_ _ | with_reducible refine Mod.setCell ?_ (by first | exact .inl rfl | (left; (try unfold from_); show _ ≤ _; first | omega | (simp; done) | (simp; omega)) | (right; first | omega | (simp; done) | (simp; omega))) _ | with_reducible refine Mod.call0 ?_ (by with_reducible assumption) | with_reducible refine Mod.call ?_ (by with_reducible assumption) (by first | (rintro _ rfl; first | exact .inl rfl | (right; (first | omega | (simp; done) | (simp; omega)))) | (rintro _ (rfl | rfl) <;> (right; (first | omega | (simp; done) | (simp; omega)))))))) ((go_at_call 27; (with_reducible refine (of_calls _ _).mono ?_); rintro e w' ⟨rfl, rfl⟩))
  all_goals
    go_wp2
    go_ret2
    refine ⟨_, _, _, rfl, ⟨(by repeat (first | with_reducible assumption | with_reducible apply Blk.new | with_reducible exact Blk.newAt (by first | rfl | (simp; done) | (simp; omega)) | with_reducible apply Blk.alloc | with_reducible apply Blk.drew | with_reducible apply Blk.drewN | with_reducible apply Blk.keep0 (hm := by with_reducible assumption) | with_reducible apply Blk.keep (hm := by with_reducible assumption) (hg := by first | omega | exact not_two (by omega) (by omega)) | with_reducible apply Blk.far (hp := by first | omega | (simp; done) | (simp; omega)) | with_reducible apply Blk.set1 | rfl)), ⟨0, (by repeat (first | with_reducible assumption | with_reducible apply Blk.new | with_reducible exact Blk.newAt (by first | rfl | (simp; done) | (simp; omega)) | with_reducible apply Blk.alloc | with_reducible apply Blk.drew | with_reducible apply Blk.drewN | with_reducible apply Blk.keep0 (hm := by with_reducible assumption) | with_reducible apply Blk.keep (hm := by with_reducible assumption) (hg := by first | omega | exact not_two (by omega) (by omega)) | with_reducible apply Blk.far (hp := by first | omega | (simp; done) | (simp; omega)) | with_reducible apply Blk.set1 | rfl))⟩, ?_, rfl, by first | omega | (simp; done) | (simp; omega), by first | omega | (simp; done) | (simp; omega), by first | omega | (simp; done) | (simp; omega)⟩, by first | omega | (simp; done) | (simp; omega), by first | omega | (simp; done) | (simp; omega), by first | omega | (simp; done) | (simp; omega), (by repeat (first | with_reducible exact Mod.refl _ _ | with_reducible assumption | with_reducible refine Mod.alloc ?_ _ | with_reducible refine Mod.drew ?_ | with_reducible refine Mod.drewN ?_ _ | with_reducible refine Mod.setCell ?_ (by first | exact .inl rfl | (left; (try unfold from_); show _ ≤ _; first | omega | (simp; done) | (simp; omega)) | (right; first | omega | (simp; done) | (simp; omega))) _ | with_reducible refine Mod.call0 ?_ (by with_reducible assumption) | with_reducible refine Mod.call ?_ (by with_reducible assumption) (by first | (rintro _ rfl; first | exact .inl rfl | (right; (first | omega | (simp; done) | (simp; omega)))) | (rintro _ (rfl | rfl) <;> (right; (first | omega | (simp; done) | (simp; omega)))))))⟩
    show Blk _ _ _ #[.int .i64 0, .int .i64 0, .int .i64 0, .int .i64 0, .int .i64 0, .int .i64 0]
    exact (by repeat (first | with_reducible assumption | with_reducible apply Blk.new | with_reducible exact Blk.newAt (by first | rfl | (simp; done) | (simp; omega)) | with_reducible apply Blk.alloc | with_reducible apply Blk.drew | with_reducible apply Blk.drewN | with_reducible apply Blk.keep0 (hm := by with_reducible assumption) | with_reducible apply Blk.keep (hm := by with_reducible assumption) (hg := by first | omega | exact not_two (by omega) (by omega)) | with_reducible apply Blk.far (hp := by first | omega | (simp; done) | (simp; omega)) | with_reducible apply Blk.set1 | rfl))
theorem gnew_calls (n : Nat) (w : World) (h0 : 1 ≤ n) (h1 : n ≤ 6) : Calls Try.prog 13 #[.int .i64 n] w fun e w' => NewGate w w' n e := by
  have h : n = 1 ∨ n = 2 ∨ n = 3 ∨ n = 4 ∨ n = 5 ∨ n = 6 := by omega
  rcases h with rfl | rfl | rfl | rfl | rfl | rfl
  · exact gnew_1 w
  · exact gnew_2 w
  · exact gnew_3 w
  · exact gnew_4 w
  · exact gnew_5 w
  · exact gnew_6 w

/-! ### See -/
abbrev sightV (b : Bool) (s t p : Int) : Value := .agg #[.bool b, .int .i64 s, .int .i64 t, .int .i64 p]
theorem see_nil (w : World) :
    Calls Try.prog 15 #[.pointer none] w fun e w' => e = .returned (sightV false 0 0 0) ∧ Mod nowhere w w' := by
  go_enter Try.func15, Try.ntmps15
  go_wp2
  exact bodyPost_ret (v := sightV false 0 0 0) (by simp [results, Try.results15, go_sem]) rfl ⟨rfl, (by repeat (first | with_reducible exact Mod.refl _ _ | with_reducible assumption | with_reducible refine Mod.alloc ?_ _ | with_reducible refine Mod.drew ?_ | with_reducible refine Mod.drewN ?_ _ | with_reducible refine Mod.setCell ?_ (by first | exact .inl rfl | (left; (try unfold from_); show _ ≤ _; first | omega | (simp; done) | (simp; omega)) | (right; first | omega | (simp; done) | (simp; omega))) _ | with_reducible refine Mod.call0 ?_ (by with_reducible assumption) | with_reducible refine Mod.call ?_ (by with_reducible assumption) (by first | (rintro _ rfl; first | exact .inl rfl | (right; (first | omega | (simp; done) | (simp; omega)))) | (rintro _ (rfl | rfl) <;> (right; (first | omega | (simp; done) | (simp; omega)))))))⟩
set_option maxHeartbeats 400000 in
theorem see_none (g gw gp n : Nat) (ps : List Int) (w : World) (h : IsGate w g gw gp n 0 ps) :
    Calls Try.prog 15 #[.pointer (some ⟨g, 0, none⟩)] w fun e w' => e = .returned (sightV false 0 0 0) ∧ IsGate w' g gw gp n 0 ps ∧ Mod (· = gw) w w' := by
  have hl := h.lt
  obtain ⟨hb, ⟨acc, hw⟩, hp, hn, n1, n2, n3⟩ := h
  have hn' := hide hn
  clear hn
  have c_hb := hb.cell; have f_hb := hb.frozen; have l_hb := hb.lt
  go_enter Try.func15, Try.ntmps15
  go_wp2_with fail
  (with_reducible refine (load_calls gw 0 acc _ (by exact (by repeat (first | with_reducible assumption | with_reducible apply Blk.new | with_reducible exact Blk.newAt (by first | rfl | (simp; done) | (simp; omega)) | with_reducible apply Blk.alloc | with_reducible apply Blk.drew | with_reducible apply Blk.drewN | with_reducible apply Blk.keep0 (hm := by with_reducible assumption) | with_reducible apply Blk.keep (hm := by with_reducible assumption) (hg := by first | omega | exact not_two (by omega) (by omega)) | with_reducible apply Blk.far (hp := by first | omega | (simp; done) | (simp; omega)) | with_reducible apply Blk.set1 | rfl)))).mono ?_)
  rintro e w1 ⟨rfl, hkw1, hbw1⟩
  have hzw1 := hbw1.size
  (try simp at hzw1)
  have ckw1 := hkw1.cell; have fkw1 := hkw1.frozen; have lkw1 := hkw1.lt
  (try (have ltw10 : g < w1.heap.size := (by omega); have lcw10 := fun o => hbw1.cell (b := g) o (by first | omega | (simp; done) | (simp; omega)) (by first | omega | (simp; omega)); have lfw10 := fun o => hbw1.frozen (b := g) o (by first | omega | (simp; done) | (simp; omega)) (by first | omega | (simp; omega))))
  (try (have ltw11 : gp < w1.heap.size := (by omega); have lcw11 := fun o => hbw1.cell (b := gp) o (by first | omega | (simp; done) | (simp; omega)) (by first | omega | (simp; omega)); have lfw11 := fun o => hbw1.frozen (b := gp) o (by first | omega | (simp; done) | (simp; omega)) (by first | omega | (simp; omega))))
  (try (have ltw12 : w.heap.size < w1.heap.size := (by omega); have lcw12 := fun o => hbw1.cell (b := w.heap.size) o (by first | omega | (simp; done) | (simp; omega)) (by first | omega | (simp; omega)); have lfw12 := fun o => hbw1.frozen (b := w.heap.size) o (by first | omega | (simp; done) | (simp; omega)) (by first | omega | (simp; omega))))
  skip
  go_wp2
  exact bodyPost_ret (v := sightV false 0 0 0) (by simp [results, Try.results15, go_sem, *]) rfl ⟨rfl, ⟨(by repeat (first | with_reducible assumption | with_reducible apply Blk.new | with_reducible exact Blk.newAt (by first | rfl | (simp; done) | (simp; omega)) | with_reducible apply Blk.alloc | with_reducible apply Blk.drew | with_reducible apply Blk.drewN | with_reducible apply Blk.keep0 (hm := by with_reducible assumption) | with_reducible apply Blk.keep (hm := by with_reducible assumption) (hg := by first | omega | exact not_two (by omega) (by omega)) | with_reducible apply Blk.far (hp := by first | omega | (simp; done) | (simp; omega)) | with_reducible apply Blk.set1 | rfl)), ⟨wrap64 (acc + 1), (by repeat (first | with_reducible assumption | with_reducible apply Blk.new | with_reducible exact Blk.newAt (by first | rfl | (simp; done) | (simp; omega)) | with_reducible apply Blk.alloc | with_reducible apply Blk.drew | with_reducible apply Blk.drewN | with_reducible apply Blk.keep0 (hm := by with_reducible assumption) | with_reducible apply Blk.keep (hm := by with_reducible assumption) (hg := by first | omega | exact not_two (by omega) (by omega)) | with_reducible apply Blk.far (hp := by first | omega | (simp; done) | (simp; omega)) | with_reducible apply Blk.set1 | rfl))⟩, (by repeat (first | with_reducible assumption | with_reducible apply Blk.new | with_reducible exact Blk.newAt (by first | rfl | (simp; done) | (simp; omega)) | with_reducible apply Blk.alloc | with_reducible apply Blk.drew | with_reducible apply Blk.drewN | with_reducible apply Blk.keep0 (hm := by with_reducible assumption) | with_reducible apply Blk.keep (hm := by with_reducible assumption) (hg := by first | omega | exact not_two (by omega) (by omega)) | with_reducible apply Blk.far (hp := by first | omega | (simp; done) | (simp; omega)) | with_reducible apply Blk.set1 | rfl)), hn'.out, n1, n2, n3⟩, (by repeat (first | with_reducible exact Mod.refl _ _ | with_reducible assumption | with_reducible refine Mod.alloc ?_ _ | with_reducible refine Mod.drew ?_ | with_reducible refine Mod.drewN ?_ _ | with_reducible refine Mod.setCell ?_ (by first | exact .inl rfl | (left; (try unfold from_); show _ ≤ _; first | omega | (simp; done) | (simp; omega)) | (right; first | omega | (simp; done) | (simp; omega))) _ | with_reducible refine Mod.call0 ?_ (by with_reducible assumption) | with_reducible refine Mod.call ?_ (by with_reducible assumption) (by first | (rintro _ rfl; first | exact .inl rfl | (right; (first | omega | (simp; done) | (simp; omega)))) | (rintro _ (rfl | rfl) <;> (right; (first | omega | (simp; done) | (simp; omega)))))))⟩
set_option maxHeartbeats 1000000 in
theorem see_some (g gw gp n : Nat) (s : Int) (t : Nat) (p : Int) (ps : List Int) (w : World) (h : IsGate w g gw gp n (s * 8 + t + 1) ps) (h0 : 0 ≤ s) (h1 : s ≤ 1099511627776) (ht : t < n) (hn6 : n ≤ 6) (hpt : ps[t]? = some p) :
    Calls Try.prog 15 #[.pointer (some ⟨g, 0, none⟩)] w fun e w' => e = .returned (sightV true s t p) ∧ IsGate w' g gw gp n (s * 8 + t + 1) ps ∧ Mod (· = gw) w w' := by
  have hl := h.lt
  obtain ⟨hb, ⟨acc, hw⟩, hp, hn, n1, n2, n3⟩ := h
  have hn' := hide hn
  clear hn
  have cp : w.cell? ⟨gp, t, none⟩ = some (.int .i64 p) := (hp.cell t).trans (by simp [hpt])
  clear hpt
  generalize hc : s * 8 + (t : Int) + 1 = c at hw
  have q1 : (c == 0) = false := beq_eq_false_iff_ne.2 (by omega)
  have q2 : (c - 1) % 8 = (t : Int) := by omega
  have q3 : (c - 1) / 8 = s := by omega
  have b1 : 1 ≤ c := by omega
  have b2 : c ≤ 8796093022216 := by omega
  clear hc
  have c_hb := hb.cell; have f_hb := hb.frozen; have l_hb := hb.lt
  go_enter Try.func15, Try.ntmps15
  go_wp2_with fail
  (with_reducible refine (load_calls gw c acc _ (by exact (by repeat (first | with_reducible assumption | with_reducible apply Blk.new | with_reducible exact Blk.newAt (by first | rfl | (simp; done) | (simp; omega)) | with_reducible apply Blk.alloc | with_reducible apply Blk.drew | with_reducible apply Blk.drewN | with_reducible apply Blk.keep0 (hm := by with_reducible assumption) | with_reducible apply Blk.keep (hm := by with_reducible assumption) (hg := by first | omega | exact not_two (by omega) (by omega)) | with_reducible apply Blk.far (hp := by first | omega | (simp; done) | (simp; omega)) | with_reducible apply Blk.set1 | rfl)))).mono ?_)
  rintro e w1 ⟨rfl, hkw1, hbw1⟩
  have hzw1 := hbw1.size
  (try simp at hzw1)
  have ckw1 := hkw1.cell; have fkw1 := hkw1.frozen; have lkw1 := hkw1.lt
  (try (have ltw10 : g < w1.heap.size := (by omega); have lcw10 := fun o => hbw1.cell (b := g) o (by first | omega | (simp; done) | (simp; omega)) (by first | omega | (simp; omega)); have lfw10 := fun o => hbw1.frozen (b := g) o (by first | omega | (simp; done) | (simp; omega)) (by first | omega | (simp; omega))))
  (try (have ltw11 : gp < w1.heap.size := (by omega); have lcw11 := fun o => hbw1.cell (b := gp) o (by first | omega | (simp; done) | (simp; omega)) (by first | omega | (simp; omega)); have lfw11 := fun o => hbw1.frozen (b := gp) o (by first | omega | (simp; done) | (simp; omega)) (by first | omega | (simp; omega))))
  (try (have ltw12 : w.heap.size < w1.heap.size := (by omega); have lcw12 := fun o => hbw1.cell (b := w.heap.size) o (by first | omega | (simp; done) | (simp; omega)) (by first | omega | (simp; omega)); have lfw12 := fun o => hbw1.frozen (b := w.heap.size) o (by first | omega | (simp; done) | (simp; omega)) (by first | omega | (simp; omega))))
  skip
  go_wp2
  exact bodyPost_ret (v := sightV true s t p) (by simp [results, Try.results15, go_sem, *]) rfl ⟨rfl, ⟨(by repeat (first | with_reducible assumption | with_reducible apply Blk.new | with_reducible exact Blk.newAt (by first | rfl | (simp; done) | (simp; omega)) | with_reducible apply Blk.alloc | with_reducible apply Blk.drew | with_reducible apply Blk.drewN | with_reducible apply Blk.keep0 (hm := by with_reducible assumption) | with_reducible apply Blk.keep (hm := by with_reducible assumption) (hg := by first | omega | exact not_two (by omega) (by omega)) | with_reducible apply Blk.far (hp := by first | omega | (simp; done) | (simp; omega)) | with_reducible apply Blk.set1 | rfl)), ⟨wrap64 (acc + 1), (by repeat (first | with_reducible assumption | with_reducible apply Blk.new | with_reducible exact Blk.newAt (by first | rfl | (simp; done) | (simp; omega)) | with_reducible apply Blk.alloc | with_reducible apply Blk.drew | with_reducible apply Blk.drewN | with_reducible apply Blk.keep0 (hm := by with_reducible assumption) | with_reducible apply Blk.keep (hm := by with_reducible assumption) (hg := by first | omega | exact not_two (by omega) (by omega)) | with_reducible apply Blk.far (hp := by first | omega | (simp; done) | (simp; omega)) | with_reducible apply Blk.set1 | rfl))⟩, (by repeat (first | with_reducible assumption | with_reducible apply Blk.new | with_reducible exact Blk.newAt (by first | rfl | (simp; done) | (simp; omega)) | with_reducible apply Blk.alloc | with_reducible apply Blk.drew | with_reducible apply Blk.drewN | with_reducible apply Blk.keep0 (hm := by with_reducible assumption) | with_reducible apply Blk.keep (hm := by with_reducible assumption) (hg := by first | omega | exact not_two (by omega) (by omega)) | with_reducible apply Blk.far (hp := by first | omega | (simp; done) | (simp; omega)) | with_reducible apply Blk.set1 | rfl)), hn'.out, n1, n2, n3⟩, (by repeat (first | with_reducible exact Mod.refl _ _ | with_reducible assumption | with_reducible refine Mod.alloc ?_ _ | with_reducible refine Mod.drew ?_ | with_reducible refine Mod.drewN ?_ _ | with_reducible refine Mod.setCell ?_ (by first | exact .inl rfl | (left; (try unfold from_); show _ ≤ _; first | omega | (simp; done) | (simp; omega)) | (right; first | omega | (simp; done) | (simp; omega))) _ | with_reducible refine Mod.call0 ?_ (by with_reducible assumption) | with_reducible refine Mod.call ?_ (by with_reducible assumption) (by first | (rintro _ rfl; first | exact .inl rfl | (right; (first | omega | (simp; done) | (simp; omega)))) | (rintro _ (rfl | rfl) <;> (right; (first | omega | (simp; done) | (simp; omega)))))))⟩

/-! ### Swap, Leave -/
theorem swap_yes_ (g : Nat) (n acc new : Int) (w : World) (h : IsWord w g n acc) :
    Calls Try.prog 30 #[.pointer (some ⟨g, 0, none⟩), .int .i64 n, .int .i64 new] w
      fun e w' => e = .returned (.bool true) ∧ IsWord w' g new (wrap64 (acc + 1)) ∧ Mod (· = g) w w' := by
  have := swap_calls g n acc n new w h
  rwa [if_pos rfl, show (n == n) = true from beq_iff_eq.2 rfl] at this
theorem swap_no_ (g : Nat) (n acc old new : Int) (w : World) (h : IsWord w g n acc) (hn : ¬ n = old) :
    Calls Try.prog 30 #[.pointer (some ⟨g, 0, none⟩), .int .i64 old, .int .i64 new] w
      fun e w' => e = .returned (.bool false) ∧ IsWord w' g n (wrap64 (acc + 1)) ∧ Mod (· = g) w w' := by
  have := swap_calls g n acc old new w h
  rwa [if_neg hn, show (n == old) = false from beq_eq_false_iff_ne.2 hn] at this
end Go.Proofs.Ytiklhnngkebkeaa
