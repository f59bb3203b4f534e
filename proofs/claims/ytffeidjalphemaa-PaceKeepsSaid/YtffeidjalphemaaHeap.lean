/- Pace's heap: the methods of waiters, called through the interface. -/
import Derived.Test.YtffeidjalphemaaOwn
import Derived.Test.YtffeidjalphemaaB2
import Derived.LoopTactic
import Derived.Deep.RegionLaw
import Derived.IntWalk
import Derived.Test.YtffeidjalphemaaProg
namespace Go.Proofs.Ytffeidjalphemaa
open Go.RowKit

theorem m_load (k : Value → FuncId × Value) (p : Nat) (v : Value) (w : World) (h : w.cell? ⟨p, 0, none⟩ = some v) : (Sem.load Mode.plain ⟨p, 0, none⟩ fun v => Sem.pure (k v)).run Try.prog w = .ok (k v) w := by
  simp [go_sem, Sem.run, h]
theorem m_len (p : Nat) (v : Value) (w : World) (h : w.cell? ⟨p, 0, none⟩ = some v) : (method 170 47 (.pointer (some ⟨p, 0, none⟩)) "Len").run Try.prog w = .ok (41, v) w := by
  have e : (method 170 47 (.pointer (some ⟨p, 0, none⟩)) "Len").run Try.prog w = (Sem.load Mode.plain ⟨p, 0, none⟩ fun v => Sem.pure (41, v)).run Try.prog w := by kernel_rfl
  rw [e, m_load (fun v => (41, v)) p v w h]
theorem m_less (p : Nat) (v : Value) (w : World) (h : w.cell? ⟨p, 0, none⟩ = some v) : (method 170 47 (.pointer (some ⟨p, 0, none⟩)) "Less").run Try.prog w = .ok (42, v) w := by
  have e : (method 170 47 (.pointer (some ⟨p, 0, none⟩)) "Less").run Try.prog w = (Sem.load Mode.plain ⟨p, 0, none⟩ fun v => Sem.pure (42, v)).run Try.prog w := by kernel_rfl
  rw [e, m_load (fun v => (42, v)) p v w h]
theorem m_swap (p : Nat) (v : Value) (w : World) (h : w.cell? ⟨p, 0, none⟩ = some v) : (method 170 47 (.pointer (some ⟨p, 0, none⟩)) "Swap").run Try.prog w = .ok (45, v) w := by
  have e : (method 170 47 (.pointer (some ⟨p, 0, none⟩)) "Swap").run Try.prog w = (Sem.load Mode.plain ⟨p, 0, none⟩ fun v => Sem.pure (45, v)).run Try.prog w := by kernel_rfl
  rw [e, m_load (fun v => (45, v)) p v w h]
theorem m_push (a : Addr) (w : World) : (method 170 47 (.pointer (some a)) "Push").run Try.prog w = .ok (44, .pointer (some a)) w := by kernel_rfl
theorem m_pop (a : Addr) (w : World) : (method 170 47 (.pointer (some a)) "Pop").run Try.prog w = .ok (43, .pointer (some a)) w := by kernel_rfl

/-- Who comes first: the least patience; of one patience, the least thread. -/
def ltW (x y : Int × Int) : Prop := x.2 < y.2 ∨ (x.2 = y.2 ∧ x.1 < y.1)
instance (x y : Int × Int) : Decidable (ltW x y) := by unfold ltW; infer_instance
def cellsOf : List (Int × Int) → List Value
  | [] => []
  | x :: l => .int .i64 x.1 :: .int .i64 x.2 :: cellsOf l
theorem cellsOf_length (l : List (Int × Int)) : (cellsOf l).length = l.length * 2 := by
  induction l with
  | nil => rfl
  | cons x l ih => simp only [cellsOf, List.length_cons, ih]; omega
theorem cellsOf_append (l m : List (Int × Int)) : cellsOf (l ++ m) = cellsOf l ++ cellsOf m := by
  induction l with
  | nil => rfl
  | cons x l ih => simp only [cellsOf, List.cons_append, ih]
theorem cellsOf_at {l : List (Int × Int)} {i : Nat} {x : Int × Int} (h : l[i]? = some x) : (cellsOf l)[i * 2]? = some (.int .i64 x.1) ∧ (cellsOf l)[i * 2 + 1]? = some (.int .i64 x.2) := by
  induction l generalizing i with
  | nil => simp at h
  | cons y l ih =>
    cases i with
    | zero => simp at h; subst h; simp [cellsOf]
    | succ i =>
      have := ih (i := i) (by simpa using h)
      rw [show (i + 1) * 2 = i * 2 + 1 + 1 by omega]
      simpa [cellsOf] using this
theorem cellsOf_set {l : List (Int × Int)} {i : Nat} (x : Int × Int) (h : i < l.length) : ((cellsOf l).set (i * 2) (.int .i64 x.1)).set (i * 2 + 1) (.int .i64 x.2) = cellsOf (l.set i x) := by
  induction l generalizing i with
  | nil => simp at h
  | cons y l ih =>
    cases i with
    | zero => simp [cellsOf]
    | succ i =>
      have := ih (i := i) (by simpa using h)
      rw [show (i + 1) * 2 = i * 2 + 1 + 1 by omega]
      simpa [cellsOf] using this

set_option maxHeartbeats 1000000 in
theorem wlen_calls (A : Option Addr) (n cap : Nat) (w : World) :
    Calls Try.prog 41 #[.slice A n cap] w fun e w' => e = .returned (.int .i64 n) ∧ Mod nowhere w w' := by
  go_enter Try.func41, Try.ntmps41
  go_wp2
  go_ret
  exact ⟨rfl, (by repeat (first | with_reducible exact Mod.refl _ _ | with_reducible assumption | with_reducible refine Mod.alloc ?_ _ | with_reducible refine Mod.drew ?_ | with_reducible refine Mod.drewN ?_ _ | with_reducible refine Mod.setCell ?_ (by first | exact .inl rfl | (left; (try unfold from_); show _ ≤ _; first | omega | (simp; done) | (simp; omega)) | (right; first | omega | (simp; done) | (simp; omega))) _ | with_reducible refine Mod.call0 ?_ (by with_reducible assumption) | with_reducible refine Mod.call ?_ (by with_reducible assumption) (by first | (rintro _ rfl; first | exact .inl rfl | (right; (first | omega | (simp; done) | (simp; omega)))) | (rintro _ (rfl | rfl) <;> (right; (first | omega | (simp; done) | (simp; omega)))))))⟩
set_option maxRecDepth 100000 in
set_option maxHeartbeats 2000000 in
theorem wless_calls (r n cap i k : Nat) (x y : Int × Int) (w : World) (hi : i < n) (hk : k < n) (c1 : w.cell? ⟨r, i * 2, none⟩ = some (.int .i64 x.1)) (c2 : w.cell? ⟨r, i * 2 + 1, none⟩ = some (.int .i64 x.2))
    (c3 : w.cell? ⟨r, k * 2, none⟩ = some (.int .i64 y.1)) (c4 : w.cell? ⟨r, k * 2 + 1, none⟩ = some (.int .i64 y.2)) :
    Calls Try.prog 42 #[.slice (some ⟨r, 0, none⟩) n cap, .int .i64 i, .int .i64 k] w fun e w' => e = .returned (.bool (decide (ltW x y))) ∧ Mod nowhere w w' := by
  obtain ⟨x1, x2⟩ := x
  obtain ⟨y1, y2⟩ := y
  simp only at c1 c2 c3 c4
  by_cases h : x2 = y2
  · subst h
    have e : decide (ltW (x1, x2) (y1, x2)) = decide (x1 < y1) := by simp [ltW]
    rw [e]
    go_enter Try.func42, Try.ntmps42
    go_wp2
    go_region
    all_goals go_wp2
    all_goals go_region
    all_goals go_wp2
    all_goals go_ret
    all_goals exact ⟨rfl, (by repeat (first | with_reducible exact Mod.refl _ _ | with_reducible assumption | with_reducible refine Mod.alloc ?_ _ | with_reducible refine Mod.drew ?_ | with_reducible refine Mod.drewN ?_ _ | with_reducible refine Mod.setCell ?_ (by first | exact .inl rfl | (left; (try unfold from_); show _ ≤ _; first | omega | (simp; done) | (simp; omega)) | (right; first | omega | (simp; done) | (simp; omega))) _ | with_reducible refine Mod.call0 ?_ (by with_reducible assumption) | with_reducible refine Mod.call ?_ (by with_reducible assumption) (by first | (rintro _ rfl; first | exact .inl rfl | (right; (first | omega | (simp; done) | (simp; omega)))) | (rintro _ (rfl | rfl) <;> (right; (first | omega | (simp; done) | (simp; omega)))))))⟩
  · have e : decide (ltW (x1, x2) (y1, y2)) = decide (x2 < y2) := by simp [ltW, h]
    have h' : (x2 != y2) = true := by simp [h]
    rw [e]
    go_enter Try.func42, Try.ntmps42
    go_wp2
    go_region
    all_goals go_wp2
    all_goals go_region
    all_goals go_wp2
    all_goals go_ret
    all_goals exact ⟨rfl, (by repeat (first | with_reducible exact Mod.refl _ _ | with_reducible assumption | with_reducible refine Mod.alloc ?_ _ | with_reducible refine Mod.drew ?_ | with_reducible refine Mod.drewN ?_ _ | with_reducible refine Mod.setCell ?_ (by first | exact .inl rfl | (left; (try unfold from_); show _ ≤ _; first | omega | (simp; done) | (simp; omega)) | (right; first | omega | (simp; done) | (simp; omega))) _ | with_reducible refine Mod.call0 ?_ (by with_reducible assumption) | with_reducible refine Mod.call ?_ (by with_reducible assumption) (by first | (rintro _ rfl; first | exact .inl rfl | (right; (first | omega | (simp; done) | (simp; omega)))) | (rintro _ (rfl | rfl) <;> (right; (first | omega | (simp; done) | (simp; omega)))))))⟩

set_option maxRecDepth 100000 in
set_option maxHeartbeats 2000000 in
theorem wswap_calls (r n cap i k : Nat) (l : List (Int × Int)) (x y : Int × Int) (w : World) (hl : l.length = n) (hi : i < n) (hk : k < n) (hx : l[i]? = some x) (hy : l[k]? = some y) (ho : w.ownsRow 0 38 2 (.slice (some ⟨r, 0, none⟩) n cap) n (cellsOf l)) :
    Calls Try.prog 45 #[.slice (some ⟨r, 0, none⟩) n cap, .int .i64 i, .int .i64 k] w fun e w' => e = .returned (.tuple #[]) ∧ w'.ownsRow 0 38 2 (.slice (some ⟨r, 0, none⟩) n cap) n (cellsOf ((l.set i y).set k x)) ∧ Mod (· = r) w w' := by
  have c1 := (ho.cellAt (i * 2) (by omega)).trans (cellsOf_at hx).1
  have c2 := (ho.cellAt (i * 2 + 1) (by omega)).trans (cellsOf_at hx).2
  have c3 := (ho.cellAt (k * 2) (by omega)).trans (cellsOf_at hy).1
  have c4 := (ho.cellAt (k * 2 + 1) (by omega)).trans (cellsOf_at hy).2
  have f1 := ho.frozenAt (i * 2)
  have f2 := ho.frozenAt (i * 2 + 1)
  have f3 := ho.frozenAt (k * 2)
  have f4 := ho.frozenAt (k * 2 + 1)
  have s1 := (ho.stored (i * 2) (.int .i64 y.1))
  have s2 := (s1.1.stored (i * 2 + 1) (.int .i64 y.2))
  have s3 := (s2.1.stored (k * 2) (.int .i64 x.1))
  have s4 := (s3.1.stored (k * 2 + 1) (.int .i64 x.2))
  rw [cellsOf_set y (by omega), cellsOf_set x (by rw [List.length_set]; omega)] at s4
  have S4 := hide s4.1
  have g3 := s2.1.frozenAt (k * 2)
  have g4 := s3.1.frozenAt (k * 2 + 1)
  clear s1 s2 s3 s4 ho
  by_cases e : i = k
  · subst e
    obtain rfl : x = y := by rw [hx] at hy; exact Option.some.inj hy
    go_enter Try.func45, Try.ntmps45
    go_wp2
    go_region
    all_goals go_wp2
    all_goals go_end0
    all_goals exact ⟨rfl, S4.out, (by repeat (first | with_reducible exact Mod.refl _ _ | with_reducible assumption | with_reducible refine Mod.alloc ?_ _ | with_reducible refine Mod.drew ?_ | with_reducible refine Mod.drewN ?_ _ | with_reducible refine Mod.setCell ?_ (by first | exact .inl rfl | (left; (try unfold from_); show _ ≤ _; first | omega | (simp; done) | (simp; omega)) | (right; first | omega | (simp; done) | (simp; omega))) _ | with_reducible refine Mod.call0 ?_ (by with_reducible assumption) | with_reducible refine Mod.call ?_ (by with_reducible assumption) (by first | (rintro _ rfl; first | exact .inl rfl | (right; (first | omega | (simp; done) | (simp; omega)))) | (rintro _ (rfl | rfl) <;> (right; (first | omega | (simp; done) | (simp; omega)))))))⟩
  · have n1 : ¬ k * 2 = i * 2 := by omega
    have n2 : ¬ i * 2 = k * 2 := by omega
    go_enter Try.func45, Try.ntmps45
    go_wp2
    go_region
    all_goals go_wp2
    all_goals go_end0
    all_goals exact ⟨rfl, S4.out, (by repeat (first | with_reducible exact Mod.refl _ _ | with_reducible assumption | with_reducible refine Mod.alloc ?_ _ | with_reducible refine Mod.drew ?_ | with_reducible refine Mod.drewN ?_ _ | with_reducible refine Mod.setCell ?_ (by first | exact .inl rfl | (left; (try unfold from_); show _ ≤ _; first | omega | (simp; done) | (simp; omega)) | (right; first | omega | (simp; done) | (simp; omega))) _ | with_reducible refine Mod.call0 ?_ (by with_reducible assumption) | with_reducible refine Mod.call ?_ (by with_reducible assumption) (by first | (rintro _ rfl; first | exact .inl rfl | (right; (first | omega | (simp; done) | (simp; omega)))) | (rintro _ (rfl | rfl) <;> (right; (first | omega | (simp; done) | (simp; omega)))))))⟩

/-- Block p is a heap of l: its slice, which it alone owns. -/
def HP (w : World) (H p : Nat) (l : List (Int × Int)) : Prop :=
  ∃ r cap, H ≤ p ∧ H ≤ r ∧ r ≠ p ∧ Blk w p 49 #[.slice (some ⟨r, 0, none⟩) l.length cap] ∧ w.ownsRow 0 38 2 (.slice (some ⟨r, 0, none⟩) l.length cap) l.length (cellsOf l)
theorem HP.keep0 {w w' : World} {H p : Nat} {l : List (Int × Int)} (h : HP w H p l) (hm : Mod nowhere w w') : HP w' H p l := by
  obtain ⟨r, cap, h1, h2, h3, hb, ho⟩ := h
  exact ⟨r, cap, h1, h2, h3, Blk.keep0 hb hm, owns_keep0 ho hm⟩
theorem HP.keep {S : Nat → Prop} {w w' : World} {H p : Nat} {l : List (Int × Int)} (h : HP w H p l) (hm : Mod S w w') (hS : ∀ b, S b → b < H) : HP w' H p l := by
  obtain ⟨r, cap, h1, h2, h3, hb, ho⟩ := h
  exact ⟨r, cap, h1, h2, h3, Blk.keep hb hm (fun x => by have := hS p x; omega), owns_keep ho hm (fun x => by have := hS r x; omega)⟩
abbrev hptr (p : Nat) : Value := .iface 47 (.pointer (some ⟨p, 0, none⟩))
theorem run_assert (v : Value) (w : World) : Sem.run Try.prog (Instr.typeAssert (.iface 38 v) 20 38 false) w = .ok v w := by kernel_rfl
theorem ainfo_wt : (Try.prog.info? 38).map (fun i => (i.zero, i.size, i.bytes)) = some (some (.agg #[.int .i64 0, .int .i64 0]), 2, 16) := by kernel_rfl

set_option maxRecDepth 100000 in
set_option maxHeartbeats 2000000 in
theorem wpush_calls (H p : Nat) (l : List (Int × Int)) (x : Int × Int) (w : World) (h : HP w H p l) (hl : l.length ≤ 1000) (hH : H ≤ w.heap.size) :
    Calls Try.prog 44 #[.pointer (some ⟨p, 0, none⟩), .iface 38 (.agg #[.int .i64 x.1, .int .i64 x.2])] w fun e w' => e = .returned (.tuple #[]) ∧ HP w' H p (l ++ [x]) ∧ Mod (from_ H) w w' := by
  obtain ⟨r, cap, h1, h2, h3, hb, ho⟩ := h
  have c0 := (hb.cell 0).trans rfl
  have f_b := hb.frozen
  have l_b := hb.lt
  obtain ⟨i0, hi, hz0, hz1, hz2⟩ := info_parts ainfo_wt
  have hta := run_assert
  go_enter Try.func44, Try.ntmps44
  go_wp2
  go_region_law ((refine step_append_lies _ (by rfl) _ _ _ (by rfl) 0 38 i0 (.agg #[.int .i64 0, .int .i64 0]) 2 16 Try.underlying49 hi hz0 hz1 hz2 (by rfl) (by omega) _ l.length (cellsOf l) (by rfl) (owns_keep0 ho (by repeat (first | with_reducible exact Mod.refl _ _ | with_reducible assumption | with_reducible refine Mod.alloc ?_ _ | with_reducible refine Mod.drew ?_ | with_reducible refine Mod.drewN ?_ _ | with_reducible refine Mod.setCell ?_ (by first | exact .inl rfl | (left; (try unfold from_); show _ ≤ _; first | omega | (simp; done) | (simp; omega)) | (right; first | omega | (simp; done) | (simp; omega))) _ | with_reducible refine Mod.call0 ?_ (by with_reducible assumption) | with_reducible refine Mod.call ?_ (by with_reducible assumption) (by first | (rintro _ rfl; first | exact .inl rfl | (right; (first | omega | (simp; done) | (simp; omega)))) | (rintro _ (rfl | rfl) <;> (right; (first | omega | (simp; done) | (simp; omega)))))))) ⟨w.heap.size, 0, none⟩ 1 1 [.int .i64 x.1, .int .i64 x.2] (by rfl) (by rfl) (World.news_of_block (B := w.heap.size) (cs := #[.int .i64 x.1, .int .i64 x.2]) (t := 38) (fr := (0, 0)) (by show Blk _ _ _ _; exact (by repeat (first | with_reducible assumption | with_reducible apply Blk.new | with_reducible exact Blk.newAt (by first | rfl | (simp; done) | (simp; omega)) | with_reducible apply Blk.alloc | with_reducible apply Blk.drew | with_reducible apply Blk.drewN | with_reducible apply Blk.keep0 (hm := by with_reducible assumption) | with_reducible apply Blk.keep (hm := by with_reducible assumption) (hg := by first | omega | exact not_two (by omega) (by omega)) | with_reducible apply Blk.far (hp := by first | omega | (simp; done) | (simp; omega)) | with_reducible apply Blk.set1 | rfl)))) (by simp [Value.oneCell']) (by omega) (by unfold maxLen; omega) (by omega) (Nat.zero_le _) (w.heap.size + 1) (by simp) ?_); intro q cap1 w1 hown hgrow hat hlt; obtain ⟨z1, z2, z3, z4, z5⟩ := put_mid (mk := fun s => #[s]) hb (by repeat (first | with_reducible exact Mod.refl _ _ | with_reducible assumption | with_reducible refine Mod.alloc ?_ _ | with_reducible refine Mod.drew ?_ | with_reducible refine Mod.drewN ?_ _ | with_reducible refine Mod.setCell ?_ (by first | exact .inl rfl | (left; (try unfold from_); show _ ≤ _; first | omega | (simp; done) | (simp; omega)) | (right; first | omega | (simp; done) | (simp; omega))) _ | with_reducible refine Mod.call0 ?_ (by with_reducible assumption) | with_reducible refine Mod.call ?_ (by with_reducible assumption) (by first | (rintro _ rfl; first | exact .inl rfl | (right; (first | omega | (simp; done) | (simp; omega)))) | (rintro _ (rfl | rfl) <;> (right; (first | omega | (simp; done) | (simp; omega))))))) (.inr ⟨rfl, h3⟩) hgrow hat (by omega); clear hgrow hat; have cz := z3.cell; have fz := z3.frozen; have lz := z3.lt)
  all_goals go_wp2
  all_goals
    go_end0
    have m1 : Mod (from_ H) w w1 := z4.mono (by rintro i rfl; exact h2)
    have hlen : (l ++ [x]).length = l.length + 1 := by simp
    refine ⟨rfl, ⟨q, cap1, h1, by omega, z1, ?_, ?_⟩, (by repeat (first | with_reducible exact Mod.refl _ _ | with_reducible assumption | with_reducible refine Mod.alloc ?_ _ | with_reducible refine Mod.drew ?_ | with_reducible refine Mod.drewN ?_ _ | with_reducible refine Mod.setCell ?_ (by first | exact .inl rfl | (left; (try unfold from_); show _ ≤ _; first | omega | (simp; done) | (simp; omega)) | (right; first | omega | (simp; done) | (simp; omega))) _ | with_reducible refine Mod.call0 ?_ (by with_reducible assumption) | with_reducible refine Mod.call ?_ (by with_reducible assumption) (by first | (rintro _ rfl; first | exact .inl rfl | (right; (first | omega | (simp; done) | (simp; omega)))) | (rintro _ (rfl | rfl) <;> (right; (first | omega | (simp; done) | (simp; omega)))))))⟩
    · rw [hlen]; exact (by repeat (first | with_reducible assumption | with_reducible apply Blk.new | with_reducible exact Blk.newAt (by first | rfl | (simp; done) | (simp; omega)) | with_reducible apply Blk.alloc | with_reducible apply Blk.drew | with_reducible apply Blk.drewN | with_reducible apply Blk.keep0 (hm := by with_reducible assumption) | with_reducible apply Blk.keep (hm := by with_reducible assumption) (hg := by first | omega | exact not_two (by omega) (by omega)) | with_reducible apply Blk.far (hp := by first | omega | (simp; done) | (simp; omega)) | with_reducible apply Blk.set1 | rfl))
    · rw [hlen, cellsOf_append]; exact owns_keep (S := (· = p)) hown (by repeat (first | with_reducible exact Mod.refl _ _ | with_reducible assumption | with_reducible refine Mod.alloc ?_ _ | with_reducible refine Mod.drew ?_ | with_reducible refine Mod.drewN ?_ _ | with_reducible refine Mod.setCell ?_ (by first | exact .inl rfl | (left; (try unfold from_); show _ ≤ _; first | omega | (simp; done) | (simp; omega)) | (right; first | omega | (simp; done) | (simp; omega))) _ | with_reducible refine Mod.call0 ?_ (by with_reducible assumption) | with_reducible refine Mod.call ?_ (by with_reducible assumption) (by first | (rintro _ rfl; first | exact .inl rfl | (right; (first | omega | (simp; done) | (simp; omega)))) | (rintro _ (rfl | rfl) <;> (right; (first | omega | (simp; done) | (simp; omega))))))) z1

theorem ownsRow_blk {w : World} {E : TypeId} {size g n cap : Nat} {xs : List Value} (h : w.ownsRow 0 E size (.slice (some ⟨g, 0, none⟩) n cap) n xs) : ∃ cur, Blk w g E cur := by
  obtain ⟨-, h | ⟨q', cap', cur, h1, -, h3, -⟩⟩ := h
  · cases h.1
  · injection h1 with h1 _ _
    obtain rfl : g = q' := by injection h1 with h1; injection h1
    exact ⟨cur, h3⟩
theorem ownsRow_less {w : World} {E : TypeId} {size g n m cap : Nat} {xs ys : List Value} (h : w.ownsRow 0 E size (.slice (some ⟨g, 0, none⟩) n cap) n xs) (hm : m ≤ n) (hy : ys = xs.take (m * size)) : w.ownsRow 0 E size (.slice (some ⟨g, 0, none⟩) m cap) m ys := by
  obtain ⟨hl, h | ⟨q', cap', cur, h1, h2, h3, h4, h5, h6, h7⟩⟩ := h
  · cases h.1
  · injection h1 with h1 _ hc
    obtain rfl : g = q' := by injection h1 with h1; injection h1
    subst hc
    have hle : m * size ≤ n * size := Nat.mul_le_mul_right _ hm
    refine ⟨by rw [hy, List.length_take, hl]; omega, .inr ⟨g, cap, cur, rfl, h2, h3, by omega, h5, h6, ?_⟩⟩
    rw [hy, ← h7, List.take_take, Nat.min_eq_left hle]
theorem cellsOf_take (l : List (Int × Int)) (m : Nat) : cellsOf (l.take m) = (cellsOf l).take (m * 2) := by
  induction l generalizing m with
  | nil => simp [cellsOf]
  | cons x l ih =>
    cases m with
    | zero => simp [cellsOf]
    | succ m => rw [show (m + 1) * 2 = m * 2 + 1 + 1 by omega]; simp [cellsOf, ih]
set_option maxRecDepth 100000 in
set_option maxHeartbeats 2000000 in
theorem wpop_calls (H p : Nat) (l : List (Int × Int)) (x : Int × Int) (w : World) (h : HP w H p (l ++ [x])) (hl : l.length ≤ 1000) :
    Calls Try.prog 43 #[.pointer (some ⟨p, 0, none⟩)] w fun e w' => e = .returned (.iface 38 (.agg #[.int .i64 x.1, .int .i64 x.2])) ∧ HP w' H p l ∧ Mod (from_ H) w w' := by
  obtain ⟨r, cap, h1, h2, h3, hb, ho⟩ := h
  have hlen : (l ++ [x]).length = l.length + 1 := by simp
  rw [hlen] at hb ho
  have hcap : l.length + 1 ≤ cap := by
    obtain ⟨-, h | ⟨q', cap', cur, e1, e2, e3, e4, e5, -⟩⟩ := ho
    · cases h.1
    · injection e1 with _ _ e1; subst e1; exact e4
  have hcap2 : cap ≤ maxLen := by
    obtain ⟨-, h | ⟨q', cap', cur, e1, e2, e3, e4, e5, -⟩⟩ := ho
    · cases h.1
    · injection e1 with _ _ e1; subst e1; exact e5
  have hx : (l ++ [x])[l.length]? = some x := by simp
  have d1 := (ho.cellAt (l.length * 2) (by omega)).trans (cellsOf_at hx).1
  have d2 := (ho.cellAt (l.length * 2 + 1) (by omega)).trans (cellsOf_at hx).2
  have ho' := ownsRow_less (m := l.length) (ys := cellsOf l) ho (by omega) (by rw [← cellsOf_take]; simp)
  have HO := hide ho'
  have lr := (ownsRow_blk ho).elim fun _ hc => hc.lt
  have c0 := (hb.cell 0).trans rfl
  have f_b := hb.frozen
  have l_b := hb.lt
  unfold maxLen at hcap2
  clear ho ho' hx
  go_enter Try.func43, Try.ntmps43
  go_wp2
  go_region
  all_goals go_wp2
  all_goals go_region
  all_goals go_wp2
  all_goals go_ret
  all_goals exact ⟨rfl, ⟨r, cap, h1, h2, h3, (by repeat (first | with_reducible assumption | with_reducible apply Blk.new | with_reducible exact Blk.newAt (by first | rfl | (simp; done) | (simp; omega)) | with_reducible apply Blk.alloc | with_reducible apply Blk.drew | with_reducible apply Blk.drewN | with_reducible apply Blk.keep0 (hm := by with_reducible assumption) | with_reducible apply Blk.keep (hm := by with_reducible assumption) (hg := by first | omega | exact not_two (by omega) (by omega)) | with_reducible apply Blk.far (hp := by first | omega | (simp; done) | (simp; omega)) | with_reducible apply Blk.set1 | rfl)), owns_keep (S := (· = p)) HO.out (by repeat (first | with_reducible exact Mod.refl _ _ | with_reducible assumption | with_reducible refine Mod.alloc ?_ _ | with_reducible refine Mod.drew ?_ | with_reducible refine Mod.drewN ?_ _ | with_reducible refine Mod.setCell ?_ (by first | exact .inl rfl | (left; (try unfold from_); show _ ≤ _; first | omega | (simp; done) | (simp; omega)) | (right; first | omega | (simp; done) | (simp; omega))) _ | with_reducible refine Mod.call0 ?_ (by with_reducible assumption) | with_reducible refine Mod.call ?_ (by with_reducible assumption) (by first | (rintro _ rfl; first | exact .inl rfl | (right; (first | omega | (simp; done) | (simp; omega)))) | (rintro _ (rfl | rfl) <;> (right; (first | omega | (simp; done) | (simp; omega))))))) h3⟩, (by repeat (first | with_reducible exact Mod.refl _ _ | with_reducible assumption | with_reducible refine Mod.alloc ?_ _ | with_reducible refine Mod.drew ?_ | with_reducible refine Mod.drewN ?_ _ | with_reducible refine Mod.setCell ?_ (by first | exact .inl rfl | (left; (try unfold from_); show _ ≤ _; first | omega | (simp; done) | (simp; omega)) | (right; first | omega | (simp; done) | (simp; omega))) _ | with_reducible refine Mod.call0 ?_ (by with_reducible assumption) | with_reducible refine Mod.call ?_ (by with_reducible assumption) (by first | (rintro _ rfl; first | exact .inl rfl | (right; (first | omega | (simp; done) | (simp; omega)))) | (rintro _ (rfl | rfl) <;> (right; (first | omega | (simp; done) | (simp; omega)))))))⟩
end Go.Proofs.Ytffeidjalphemaa
