/- What the functions of package choice do: each by a function of numbers. -/
import Derived.Test.YtiklhnngkebkeaaProg
import Derived.Test.YtiklhnngkebkeaaB
import Derived.OwnWalk
import Derived.WalkLawsBesides
import Derived.KernelRfl
import Derived.RegionTactic
import Derived.BigRegion
namespace Go.Proofs.Ytiklhnngkebkeaa
open Go.RowKit

structure St where
  foe : Int
  tries : Int
  yields : Int
  pulse : Int
  looks : Int
structure Sd where
  id : Int
  stamp : Int
  prio : Int
  pulse : Int
  waiting : Bool
abbrev St.v (s : St) : Value := .agg #[.int .i64 s.foe, .int .i64 s.tries, .int .i64 s.yields, .int .i64 s.pulse, .int .i64 s.looks]
abbrev Sd.v (s : Sd) : Value := .agg #[.int .i64 s.id, .int .i64 s.stamp, .int .i64 s.prio, .int .i64 s.pulse, .bool s.waiting]

def moreF (n : Int) : Int := if 1000000 ≤ n then 1000000 else n + 1
theorem moreF_i64 {n : Int} (h : I64 n) : I64 (moreF n) := by
  unfold I64 moreF at *; split <;> omega
def metF (s : St) (f : Sd) : St := if s.foe = f.id then { s with tries := moreF s.tries } else ⟨f.id, 1, s.yields, f.pulse, 0⟩
def lookF (s : St) (pulse : Int) : St := if s.pulse = pulse then { s with looks := moreF s.looks } else { s with pulse := pulse, looks := 0 }

theorem ret_int {k : IntKind} {a b : Int} (h : a = b) : Ending.returned (.int k a) = .returned (.int k b) := by rw [h]

set_option maxHeartbeats 400000 in
theorem more_calls (a0 : Int) (w : World) (h : I64 a0) :
    Calls Try.prog 32 #[.int .i64 a0] w fun e w' => e = .returned (.int .i64 (moreF a0)) ∧ w = w' := by
  obtain ⟨h, _⟩ := h
  go_enter Try.func32, Try.ntmps32
  go_wp2
  · go_ret
    exact ⟨ret_int (by unfold moreF; rw [if_pos (by assumption)]), rfl⟩
  · go_ret
    exact ⟨ret_int (by unfold moreF; rw [if_neg (by omega)]), rfl⟩

set_option maxHeartbeats 1000000 in
theorem fresh_calls (w : World) : Calls Try.prog 14 #[] w fun e w' => e = .returned (.agg #[.int .i64 (-1), .int .i64 0, .int .i64 0, .int .i64 0, .int .i64 0]) ∧ Mod nowhere w w' := by
  go_enter Try.func14, Try.ntmps14
  go_wp2
  exact bodyPost_ret (v := St.v ⟨-1, 0, 0, 0, 0⟩) (by simp [results, Try.results14, go_sem]) rfl ⟨rfl, ((Mod.refl _ _).alloc _)⟩

set_option maxHeartbeats 1000000 in
theorem met_calls (a b c d e f g h i : Int) (j : Bool) (w : World) (hb : I64 b) :
    Calls Try.prog 24 #[.agg #[.int .i64 a, .int .i64 b, .int .i64 c, .int .i64 d, .int .i64 e], .agg #[.int .i64 f, .int .i64 g, .int .i64 h, .int .i64 i, .bool j]] w
     fun en w' => en = .returned (metF ⟨a, b, c, d, e⟩ ⟨f, g, h, i, j⟩).v ∧ Mod nowhere w w' := by
  by_cases hne : a = f
  · have h1 : (a == f) = true := beq_iff_eq.2 hne
    have hfin : metF ⟨a, b, c, d, e⟩ ⟨f, g, h, i, j⟩ = ⟨a, moreF b, c, d, e⟩ := by simp [metF, hne]
    rw [hfin]
    clear hne hfin
    go_enter Try.func24, Try.ntmps24
    go_wp2_with (go_at_call 32; (with_reducible refine (more_calls _ _ hb).mono ?_); rintro e w' ⟨rfl, rfl⟩)
    exact bodyPost_ret (v := .agg #[.int .i64 a, .int .i64 (moreF b), .int .i64 c, .int .i64 d, .int .i64 e]) (by simp [results, Try.results24, go_sem]) rfl ⟨rfl, (by repeat (first | with_reducible exact Mod.refl _ _ | with_reducible assumption | with_reducible refine Mod.alloc ?_ _ | with_reducible refine Mod.drew ?_ | with_reducible refine Mod.drewN ?_ _ | with_reducible refine Mod.setCell ?_ (by first | exact .inl rfl | (left; (try unfold from_); show _ ≤ _; first | omega | (simp; done) | (simp; omega)) | (right; first | omega | (simp; done) | (simp; omega))) _ | with_reducible refine Mod.call0 ?_ (by with_reducible assumption) | with_reducible refine Mod.call ?_ (by with_reducible assumption) (by first | (rintro _ rfl; first | exact .inl rfl | (right; (first | omega | (simp; done) | (simp; omega)))) | (rintro _ (rfl | rfl) <;> (right; (first | omega | (simp; done) | (simp; omega)))))))⟩
  · have h1 : (a == f) = false := beq_eq_false_iff_ne.2 hne
    have hfin : metF ⟨a, b, c, d, e⟩ ⟨f, g, h, i, j⟩ = ⟨f, 1, c, i, 0⟩ := by simp [metF, hne]
    rw [hfin]
    clear hne hfin
    go_enter Try.func24, Try.ntmps24
    go_wp2
    exact bodyPost_ret (v := .agg #[.int .i64 f, .int .i64 1, .int .i64 c, .int .i64 i, .int .i64 0]) (by simp [results, Try.results24, go_sem]) rfl ⟨rfl, (by repeat (first | with_reducible exact Mod.refl _ _ | with_reducible assumption | with_reducible refine Mod.alloc ?_ _ | with_reducible refine Mod.drew ?_ | with_reducible refine Mod.drewN ?_ _ | with_reducible refine Mod.setCell ?_ (by first | exact .inl rfl | (left; (try unfold from_); show _ ≤ _; first | omega | (simp; done) | (simp; omega)) | (right; first | omega | (simp; done) | (simp; omega))) _ | with_reducible refine Mod.call0 ?_ (by with_reducible assumption) | with_reducible refine Mod.call ?_ (by with_reducible assumption) (by first | (rintro _ rfl; first | exact .inl rfl | (right; (first | omega | (simp; done) | (simp; omega)))) | (rintro _ (rfl | rfl) <;> (right; (first | omega | (simp; done) | (simp; omega)))))))⟩

set_option maxHeartbeats 1000000 in
theorem look_calls (a b c d e p n : Int) (w : World) (he : I64 e) :
    Calls Try.prog 23 #[.agg #[.int .i64 a, .int .i64 b, .int .i64 c, .int .i64 d, .int .i64 e], .int .i64 p, .int .i64 n] w
     fun en w' => en = .returned (.tuple #[(lookF ⟨a, b, c, d, e⟩ p).v, .bool (decide (n < (lookF ⟨a, b, c, d, e⟩ p).looks))]) ∧ Mod nowhere w w' := by
  by_cases hne : d = p
  · have h1 : (d == p) = true := beq_iff_eq.2 hne
    have hfin : lookF ⟨a, b, c, d, e⟩ p = ⟨a, b, c, d, moreF e⟩ := by simp [lookF, hne]
    rw [hfin]
    clear hne hfin
    go_enter Try.func23, Try.ntmps23
    go_wp2_with (go_at_call 32; (with_reducible refine (more_calls _ _ he).mono ?_); rintro e w' ⟨rfl, rfl⟩)
    go_region
    all_goals go_wp2
    all_goals exact bodyPost_ret (v := .tuple #[.agg #[.int .i64 a, .int .i64 b, .int .i64 c, .int .i64 d, .int .i64 (moreF e)], .bool (decide (n < moreF e))]) (by simp [results, Try.results23, go_sem]) rfl ⟨rfl, (by repeat (first | with_reducible exact Mod.refl _ _ | with_reducible assumption | with_reducible refine Mod.alloc ?_ _ | with_reducible refine Mod.drew ?_ | with_reducible refine Mod.drewN ?_ _ | with_reducible refine Mod.setCell ?_ (by first | exact .inl rfl | (left; (try unfold from_); show _ ≤ _; first | omega | (simp; done) | (simp; omega)) | (right; first | omega | (simp; done) | (simp; omega))) _ | with_reducible refine Mod.call0 ?_ (by with_reducible assumption) | with_reducible refine Mod.call ?_ (by with_reducible assumption) (by first | (rintro _ rfl; first | exact .inl rfl | (right; (first | omega | (simp; done) | (simp; omega)))) | (rintro _ (rfl | rfl) <;> (right; (first | omega | (simp; done) | (simp; omega)))))))⟩
  · have h1 : (d == p) = false := beq_eq_false_iff_ne.2 hne
    have hfin : lookF ⟨a, b, c, d, e⟩ p = ⟨a, b, c, p, 0⟩ := by simp [lookF, hne]
    rw [hfin]
    clear hne hfin
    go_enter Try.func23, Try.ntmps23
    go_wp2
    go_region
    all_goals go_wp2
    all_goals exact bodyPost_ret (v := .tuple #[.agg #[.int .i64 a, .int .i64 b, .int .i64 c, .int .i64 p, .int .i64 0], .bool (decide (n < 0))]) (by simp [results, Try.results23, go_sem]) rfl ⟨rfl, (by repeat (first | with_reducible exact Mod.refl _ _ | with_reducible assumption | with_reducible refine Mod.alloc ?_ _ | with_reducible refine Mod.drew ?_ | with_reducible refine Mod.drewN ?_ _ | with_reducible refine Mod.setCell ?_ (by first | exact .inl rfl | (left; (try unfold from_); show _ ≤ _; first | omega | (simp; done) | (simp; omega)) | (right; first | omega | (simp; done) | (simp; omega))) _ | with_reducible refine Mod.call0 ?_ (by with_reducible assumption) | with_reducible refine Mod.call ?_ (by with_reducible assumption) (by first | (rintro _ rfl; first | exact .inl rfl | (right; (first | omega | (simp; done) | (simp; omega)))) | (rintro _ (rfl | rfl) <;> (right; (first | omega | (simp; done) | (simp; omega)))))))⟩

def forF (n wait : Int) : Int := if wait < n then (if 1 < wait then wait else 1) else (if 1 < n then n else 1)
def okF (k n wait : Int) : Bool := if k = 1 ∨ k = 3 then n == 0 else if k = 2 then decide (1 ≤ n ∧ n ≤ wait) else false
end Go.Proofs.Ytiklhnngkebkeaa
