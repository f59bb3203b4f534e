/- The trace of a floor: Note, Trace, two rows of events that are one. -/
import Derived.Test.YtcfpgecchappoaaFloorE
import Derived.LoopTactic
namespace Go.Proofs.Ytcfpgecchappoaa
open Go.RowKit

/-- The cells of one event; of a row of events. -/
def evCells (x : Nat → Int) : List Value := [.int .i64 (x 0), .int .i64 (x 1), .int .i64 (x 2), .int .i64 (x 3), .int .i64 (x 4), .int .i64 (x 5), .int .i64 (x 6)]
def evs (l : List (Nat → Int)) : List Value := l.flatMap evCells
theorem evs_len (l : List (Nat → Int)) : (evs l).length = l.length * 7 := by
  induction l with
  | nil => rfl
  | cons x l ih =>
    have : evs (x :: l) = evCells x ++ evs l := rfl
    rw [this, List.length_append, ih, List.length_cons]
    have : (evCells x).length = 7 := rfl
    omega
theorem evs_snoc (l : List (Nat → Int)) (x : Nat → Int) : evs (l ++ [x]) = evs l ++ evCells x := by
  unfold evs
  simp
theorem evs_at (l : List (Nat → Int)) (i : Nat) (x : Nat → Int) (j : Nat) (hx : l[i]? = some x) (hj : j < 7) : (evs l)[i * 7 + j]? = some (.int .i64 (x j)) := by
  induction l generalizing i with
  | nil => simp at hx
  | cons y l ih =>
    have e : evs (y :: l) = evCells y ++ evs l := rfl
    have h7 : (evCells y).length = 7 := rfl
    rw [e]
    cases i with
    | zero =>
      simp at hx
      subst hx
      rw [List.getElem?_append_left (by omega)]
      have : j = 0 ∨ j = 1 ∨ j = 2 ∨ j = 3 ∨ j = 4 ∨ j = 5 ∨ j = 6 := by omega
      rcases this with rfl | rfl | rfl | rfl | rfl | rfl | rfl <;> rfl
    | succ i =>
      rw [List.getElem?_append_right (by omega), h7, show (i + 1) * 7 + j - 7 = i * 7 + j by omega]
      exact ih i (by simpa using hx)
theorem evs_reads {w : World} {B n : Nat} {A : Option Addr} {l : List (Nat → Int)} (h : IntRows w B A n 7 l) (hl : l.length = n) : Reads w B 7 A n (evs l) := by
  refine ⟨by rw [evs_len, hl], fun hn => ?_⟩
  obtain ⟨b, o, rfl, hb, hc⟩ := h hn
  refine ⟨_, rfl, hb, fun j u hu => ?_⟩
  have hlt : j < (evs l).length := (List.getElem?_eq_some_iff.1 hu).1
  rw [evs_len] at hlt
  have hd : j / 7 < l.length := by omega
  have he : j = j / 7 * 7 + j % 7 := by omega
  have hx : l[j / 7]? = some (l[j / 7]'hd) := List.getElem?_eq_getElem hd
  have := evs_at l (j / 7) _ (j % 7) hx (by omega)
  rw [← he, hu] at this
  injection this with this
  rw [Addr.add_lit, this]
  have := hc (j / 7) _ hx (j % 7) (by omega)
  rwa [← he] at this
theorem evs_take {w : World} {B n : Nat} {A : Option Addr} {l : List (Nat → Int)} (h : Reads w B 7 A n (evs l)) (hl : l.length = n) {k : Nat} (hk : k ≤ n) : Reads w B 7 A k (evs (l.take k)) := by
  refine ⟨by rw [evs_len, List.length_take]; omega, fun h0 => ?_⟩
  obtain ⟨ad, hA, hb, hc⟩ := h.2 (by omega)
  refine ⟨ad, hA, hb, fun j u hu => hc j u ?_⟩
  have e : l = l.take k ++ l.drop k := (List.take_append_drop k l).symm
  have e2 : evs l = evs (l.take k) ++ evs (l.drop k) := by
    conv => lhs; rw [e]
    unfold evs
    rw [List.flatMap_append]
  rw [e2, List.getElem?_append_left (List.getElem?_eq_some_iff.1 hu).1]
  exact hu
theorem ainfo_ev : (Try.prog.info? 38).map (fun i => (i.zero, i.size, i.bytes)) = some (some (.agg #[.int .i64 0, .int .i64 0, .int .i64 0, .int .i64 0, .int .i64 0, .int .i64 0, .int .i64 0]), 7, 56) := by kernel_rfl
theorem emptyRowK (w : World) (E : TypeId) (k : Nat) : (w.alloc (.cells #[] E)).ownsRow 0 E k (.slice (some ⟨w.heap.size, 0, none⟩) 0 0) 0 [] :=
  ⟨by simp, .inr ⟨w.heap.size, 0, #[], rfl, Nat.zero_le _, Blk.new w E #[], Nat.le_refl _, by unfold maxLen; omega, by simp, by simp⟩⟩
set_option maxRecDepth 100000 in
set_option maxHeartbeats 2000000 in
theorem eclone_calls (A : Option Addr) (n c B : Nat) (l : List (Nat → Int)) (w : World) (hr : Reads w B 7 A n (evs l)) (hB : B ≤ w.heap.size) (hl : l.length = n) (hn : n ≤ 1000) :
    Calls Try.prog 50 #[.slice A n c] w fun e w' => ∃ z, e = .returned z ∧ LocRow w' w.heap.size 38 7 z n (evs l) ∧ Mod nowhere w w' := by
  have qT : ∀ (w : World) (a : Option Addr) (n c n' c' : Nat), (binOp .eql 35 (.slice a n c) (.slice none n' c')).run Try.prog w = .ok (.bool a.isNone) w := fun w a n c n' c' => Lib.run_eql_slice_nil w 35 38 a n c n' c' Try.underlying35
  cases A with
  | none =>
    have h0 : n = 0 := by
      by_cases h : 0 < n
      · obtain ⟨ad, h1, -⟩ := hr.2 h; cases h1
      · omega
    subst h0
    obtain rfl : l = [] := List.length_eq_zero_iff.1 hl
    go_enter Try.func50, Try.ntmps50
    go_wp2
    go_ret
    exact ⟨_, rfl, LocRow.nil _ _ _ _, (by repeat (first | with_reducible exact Mod.refl _ _ | with_reducible assumption | with_reducible refine Mod.alloc ?_ _ | with_reducible refine Mod.drew ?_ | with_reducible refine Mod.drewN ?_ _ | with_reducible refine Mod.setCell ?_ (by first | exact .inl rfl | (left; (try unfold from_); show _ ≤ _; first | omega | (simp; done) | (simp; omega)) | (right; first | omega | (simp; done) | (simp; omega))) _ | with_reducible refine Mod.call0 ?_ (by with_reducible assumption) | with_reducible refine Mod.call ?_ (by with_reducible assumption) (by first | (rintro _ rfl; first | exact .inl rfl | (right; (first | omega | (simp; done) | (simp; omega)))) | (rintro _ (rfl | rfl) <;> (right; (first | omega | (simp; done) | (simp; omega)))))))⟩
  | some ad =>
    by_cases h0 : 0 < n
    · obtain ⟨b, o, e, hb, hc⟩ := hr.form h0 (by omega)
      obtain rfl : ad = ⟨b, o, none⟩ := Option.some.inj e
      obtain ⟨i0, hi, hz0, hz1, hz2⟩ := info_parts ainfo_ev
      have HL := hide hl
      have HC := hide hc
      clear hl hc hr e
      go_enter Try.func50, Try.ntmps50
      go_wp2_with (at_builtin; (refine wpList_append_lies _ rfl _ _ _ rfl 0 38 i0 (.agg #[.int .i64 0, .int .i64 0, .int .i64 0, .int .i64 0, .int .i64 0, .int .i64 0, .int .i64 0]) 7 56 Try.underlying35 hi hz0 hz1 hz2 (by rfl) (by omega) (.slice (some ⟨w.heap.size, 0, none⟩) 0 0) 0 [] (by rfl) (emptyRowK _ _ _) ⟨b, o, none⟩ n c (evs l) (by rfl) (by rw [evs_len, HL.out]) (fun j u hu => by rw [Addr.add_lit]; exact (((Mod.refl nowhere w).alloc _).cell (o + j) (by omega) id).trans (HC.out j u hu)) (by intro u hu; simp only [evs, List.mem_flatMap, evCells, List.mem_cons, List.not_mem_nil, or_false] at hu; obtain ⟨x, -, hx⟩ := hu; rcases hx with rfl | rfl | rfl | rfl | rfl | rfl | rfl <;> rfl) (by omega) (by unfold maxLen; omega) (by omega) (Nat.zero_le _) (w.heap.size + 1) (by simp) ?_); rintro q1 cap1 w3 hown hgrow hat hlt)
      have hq1 : w.heap.size ≤ q1 := by rcases hat with hh | hh <;> first | omega | (simp [Value.ownBlock] at hh; omega)
      simp only [Nat.zero_add, List.nil_append] at hown
      have m3 : Mod (· = w.heap.size) (w.alloc (.cells #[] 38)) w3 := (Mod.of_grown hgrow).mono fun b hb => by simpa [Value.ownBlock] using hb
      go_ret
      exact ⟨_, rfl, ⟨_, _, rfl, hown, .inr ⟨q1, rfl, hq1⟩⟩, ((Mod.refl nowhere w).alloc _).call m3 (fun i hi => .inr (by omega))⟩
    · have h00 : n = 0 := by omega
      subst h00
      obtain rfl : l = [] := List.length_eq_zero_iff.1 hl
      clear h0 hr
      go_enter Try.func50, Try.ntmps50
      go_wp2
      go_ret
      exact ⟨_, rfl, ⟨_, _, rfl, emptyRowK _ _ _, .inr ⟨_, rfl, Nat.le_refl _⟩⟩, (by repeat (first | with_reducible exact Mod.refl _ _ | with_reducible assumption | with_reducible refine Mod.alloc ?_ _ | with_reducible refine Mod.drew ?_ | with_reducible refine Mod.drewN ?_ _ | with_reducible refine Mod.setCell ?_ (by first | exact .inl rfl | (left; (try unfold from_); show _ ≤ _; first | omega | (simp; done) | (simp; omega)) | (right; first | omega | (simp; done) | (simp; omega))) _ | with_reducible refine Mod.call0 ?_ (by with_reducible assumption) | with_reducible refine Mod.call ?_ (by with_reducible assumption) (by first | (rintro _ rfl; first | exact .inl rfl | (right; (first | omega | (simp; done) | (simp; omega)))) | (rintro _ (rfl | rfl) <;> (right; (first | omega | (simp; done) | (simp; omega)))))))⟩
/-- A floor whose trace is of the cells cs, in block r. -/
abbrev FloorO (w : World) (p r n : Nat) (v0 v1 v2 v3 v4 : Value) (c0 c1 c2 c3 c4 c5 : Int) (T : Nat) (D R : Value) (cs : List Value) : Prop := Own w 86 (fun s => #[v0, v1, v2, v3, v4, .int .i64 c0, .int .i64 c1, .int .i64 c2, .int .i64 c3, .int .i64 c4, .int .i64 c5, .iface T (.agg #[]), D, R, s]) 38 7 p r n cs
abbrev PutFloor (w w' : World) (p r n : Nat) (v0 v1 v2 v3 v4 : Value) (c0 c1 c2 c3 c4 c5 : Int) (T : Nat) (D R : Value) (cs : List Value) : Prop := PutOwn w w' 86 (fun s => #[v0, v1, v2, v3, v4, .int .i64 c0, .int .i64 c1, .int .i64 c2, .int .i64 c3, .int .i64 c4, .int .i64 c5, .iface T (.agg #[]), D, R, s]) 38 7 p r n cs
set_option maxRecDepth 100000 in
set_option maxHeartbeats 2000000 in
theorem trace_calls (p r n : Nat) (v0 v1 v2 v3 v4 : Value) (c0 c1 c2 c3 c4 c5 : Int) (T : Nat) (D R : Value) (l : List (Nat → Int)) (w : World) (h : FloorO w p r n v0 v1 v2 v3 v4 c0 c1 c2 c3 c4 c5 T D R (evs l)) (hl : l.length = n) (hn : n ≤ 1000) :
    Calls Try.prog 13 #[.pointer (some ⟨p, 0, none⟩)] w fun e w' => ∃ z, e = .returned z ∧ LocRow w' w.heap.size 38 7 z n (evs l) ∧ Mod nowhere w w' := by
  obtain ⟨A, cap, hb, ho, -⟩ := h.open_
  have c14 := (hb.cell 14).trans rfl
  have l_b := hb.lt
  have HO := hide (Reads.of_own ho)
  clear ho
  go_enter Try.func13, Try.ntmps13
  go_wp2_with fail
  (with_reducible refine (eclone_calls A n cap w.heap.size l _ HO.out (Nat.le_refl _) hl hn).mono ?_)
  rintro e w1 ⟨z, rfl, hL, hm⟩
  go_wp2
  go_ret
  exact ⟨_, rfl, hL, hm⟩
set_option maxRecDepth 100000 in
set_option maxHeartbeats 4000000 in
theorem note_calls (x : Nat → Int) (p r n : Nat) (v0 v1 v2 v3 v4 : Value) (c0 c1 c2 c3 c4 c5 : Int) (T : Nat) (D R : Value) (cs : List Value) (w : World) (h : FloorO w p r n v0 v1 v2 v3 v4 c0 c1 c2 c3 c4 c5 T D R cs) (hn : n ≤ 1000) :
    Calls Try.prog 12 #[.pointer (some ⟨p, 0, none⟩), .agg #[.int .i64 (x 0), .int .i64 (x 1), .int .i64 (x 2), .int .i64 (x 3), .int .i64 (x 4), .int .i64 (x 5), .int .i64 (x 6)]] w fun e w' => e = .returned (.tuple #[]) ∧ PutFloor w w' p r (n + 1) v0 v1 v2 v3 v4 c0 c1 c2 c3 c4 c5 T D R (cs ++ evCells x) ∧ Mod (two p r) w w' := by
  obtain ⟨A, cap, hb, ho, hr⟩ := h.open_
  have c14 := (hb.cell 14).trans rfl
  have f_b := hb.frozen
  have l_b := hb.lt
  obtain ⟨i0, hi, hz0, hz1, hz2⟩ := info_parts ainfo_ev
  have HR := hide hr
  have l_r := h.lt.2
  clear hr
  unfold evCells
  generalize x 0 = x0
  generalize x 1 = x1
  generalize x 2 = x2
  generalize x 3 = x3
  generalize x 4 = x4
  generalize x 5 = x5
  generalize x 6 = x6
  go_enter Try.func12, Try.ntmps12
  go_wp2
  go_region_law ((refine step_append_lies _ (by rfl) _ _ _ (by rfl) 0 38 i0 (.agg #[.int .i64 0, .int .i64 0, .int .i64 0, .int .i64 0, .int .i64 0, .int .i64 0, .int .i64 0]) 7 56 Try.underlying35 hi hz0 hz1 hz2 (by rfl) (by omega) _ n cs (by rfl) (owns_keep0 ho (by repeat (first | with_reducible exact Mod.refl _ _ | with_reducible assumption | with_reducible refine Mod.alloc ?_ _ | with_reducible refine Mod.drew ?_ | with_reducible refine Mod.drewN ?_ _ | with_reducible refine Mod.setCell ?_ (by first | exact .inl rfl | (left; (try unfold from_); show _ ≤ _; first | omega | (simp; done) | (simp; omega)) | (right; first | omega | (simp; done) | (simp; omega))) _ | with_reducible refine Mod.call0 ?_ (by with_reducible assumption) | with_reducible refine Mod.call ?_ (by with_reducible assumption) (by first | (rintro _ rfl; first | exact .inl rfl | (right; (first | omega | (simp; done) | (simp; omega)))) | (rintro _ (rfl | rfl) <;> (right; (first | omega | (simp; done) | (simp; omega)))))))) ⟨w.heap.size + 1, 0, none⟩ 1 1 [.int .i64 x0, .int .i64 x1, .int .i64 x2, .int .i64 x3, .int .i64 x4, .int .i64 x5, .int .i64 x6] (by rfl) (by rfl) (World.news_of_block (B := w.heap.size + 1) (cs := #[.int .i64 x0, .int .i64 x1, .int .i64 x2, .int .i64 x3, .int .i64 x4, .int .i64 x5, .int .i64 x6]) (t := 38) (fr := (0, 0)) (by show Blk _ _ _ _; exact (by repeat (first | with_reducible assumption | with_reducible apply Blk.new | with_reducible exact Blk.newAt (by first | rfl | (simp; done) | (simp; omega)) | with_reducible apply Blk.alloc | with_reducible apply Blk.drew | with_reducible apply Blk.drewN | with_reducible apply Blk.keep0 (hm := by with_reducible assumption) | with_reducible apply Blk.keep (hm := by with_reducible assumption) (hg := by first | omega | exact not_two (by omega) (by omega)) | with_reducible apply Blk.far (hp := by first | omega | (simp; done) | (simp; omega)) | with_reducible apply Blk.set1 | rfl)))) (by simp [Value.oneCell']) (by omega) (by unfold maxLen; omega) (by omega) (Nat.zero_le _) (w.heap.size + 2) (by simp) ?_; intro q cap1 w1 hown hgrow hat hlt; obtain ⟨z1, z2, z3, z4, z5⟩ := put_mid (mk := fun s => #[v0, v1, v2, v3, v4, .int .i64 c0, .int .i64 c1, .int .i64 c2, .int .i64 c3, .int .i64 c4, .int .i64 c5, .iface T (.agg #[]), D, R, s]) hb (by repeat (first | with_reducible exact Mod.refl _ _ | with_reducible assumption | with_reducible refine Mod.alloc ?_ _ | with_reducible refine Mod.drew ?_ | with_reducible refine Mod.drewN ?_ _ | with_reducible refine Mod.setCell ?_ (by first | exact .inl rfl | (left; (try unfold from_); show _ ≤ _; first | omega | (simp; done) | (simp; omega)) | (right; first | omega | (simp; done) | (simp; omega))) _ | with_reducible refine Mod.call0 ?_ (by with_reducible assumption) | with_reducible refine Mod.call ?_ (by with_reducible assumption) (by first | (rintro _ rfl; first | exact .inl rfl | (right; (first | omega | (simp; done) | (simp; omega)))) | (rintro _ (rfl | rfl) <;> (right; (first | omega | (simp; done) | (simp; omega))))))) HR.out hgrow hat (by omega); clear hgrow hat; have zb : Blk w1 w.heap.size 38 #[.int .i64 x0, .int .i64 x1, .int .i64 x2, .int .i64 x3, .int .i64 x4, .int .i64 x5, .int .i64 x6] := Blk.keep (S := (· = r)) (by repeat (first | with_reducible assumption | with_reducible apply Blk.new | with_reducible exact Blk.newAt (by first | rfl | (simp; done) | (simp; omega)) | with_reducible apply Blk.alloc | with_reducible apply Blk.drew | with_reducible apply Blk.drewN | with_reducible apply Blk.keep0 (hm := by with_reducible assumption) | with_reducible apply Blk.keep (hm := by with_reducible assumption) (hg := by first | omega | exact not_two (by omega) (by omega)) | with_reducible apply Blk.far (hp := by first | omega | (simp; done) | (simp; omega)) | with_reducible apply Blk.set1 | rfl)) z5 (by omega); have cb := zb.cell; clear z5 zb; have cz := z3.cell; have fz := z3.frozen; have lz := z3.lt))
  all_goals
    go_wp2
    go_end0
    refine ⟨rfl, put_end (mk := fun s => #[v0, v1, v2, v3, v4, .int .i64 c0, .int .i64 c1, .int .i64 c2, .int .i64 c3, .int .i64 c4, .int .i64 c5, .iface T (.agg #[]), D, R, s]) z1 z2 z4 ?_ ?_ hown⟩
    · exact (by repeat (first | with_reducible exact Mod.refl _ _ | with_reducible assumption | with_reducible refine Mod.alloc ?_ _ | with_reducible refine Mod.drew ?_ | with_reducible refine Mod.drewN ?_ _ | with_reducible refine Mod.setCell ?_ (by first | exact .inl rfl | (left; (try unfold from_); show _ ≤ _; first | omega | (simp; done) | (simp; omega)) | (right; first | omega | (simp; done) | (simp; omega))) _ | with_reducible refine Mod.call0 ?_ (by with_reducible assumption) | with_reducible refine Mod.call ?_ (by with_reducible assumption) (by first | (rintro _ rfl; first | exact .inl rfl | (right; (first | omega | (simp; done) | (simp; omega)))) | (rintro _ (rfl | rfl) <;> (right; (first | omega | (simp; done) | (simp; omega)))))))
    · exact (by repeat (first | with_reducible assumption | with_reducible apply Blk.new | with_reducible exact Blk.newAt (by first | rfl | (simp; done) | (simp; omega)) | with_reducible apply Blk.alloc | with_reducible apply Blk.drew | with_reducible apply Blk.drewN | with_reducible apply Blk.keep0 (hm := by with_reducible assumption) | with_reducible apply Blk.keep (hm := by with_reducible assumption) (hg := by first | omega | exact not_two (by omega) (by omega)) | with_reducible apply Blk.far (hp := by first | omega | (simp; done) | (simp; omega)) | with_reducible apply Blk.set1 | rfl))
set_option maxRecDepth 100000 in
set_option maxHeartbeats 4000000 in
theorem events_same (l : List (Nat → Int)) (A A' : Option Addr) (n c c' B B' : Nat) (w : World) (hl : l.length = n) (hn : n ≤ 1000) (hr : Reads w B 7 A n (evs l)) (hr' : Reads w B' 7 A' n (evs l)) (hB : B ≤ w.heap.size) (hB' : B' ≤ w.heap.size) :
    Calls Try.prog 14 #[.slice A n c, .slice A' n c'] w fun e w' => e = .returned (.bool true) ∧ Mod nowhere w w' := by
  have HR := hide hr
  have HR' := hide hr'
  have HL := hide hl
  clear hr hr' hl
  go_enter Try.func14, Try.ntmps14
  go_wp2
  go_loopw [5] (fun s5 wx => ∃ k : Nat, s5 = .int .i64 k ∧ k ≤ n ∧ Mod nowhere w wx) (fun s5 _ => (2000 - (intOf s5)).toNat)
  case atStart => exact ⟨0, rfl, Nat.zero_le _, (by repeat (first | with_reducible exact Mod.refl _ _ | with_reducible assumption | with_reducible refine Mod.alloc ?_ _ | with_reducible refine Mod.drew ?_ | with_reducible refine Mod.drewN ?_ _ | with_reducible refine Mod.setCell ?_ (by first | exact .inl rfl | (left; (try unfold from_); show _ ≤ _; first | omega | (simp; done) | (simp; omega)) | (right; first | omega | (simp; done) | (simp; omega))) _ | with_reducible refine Mod.call0 ?_ (by with_reducible assumption) | with_reducible refine Mod.call ?_ (by with_reducible assumption) (by first | (rintro _ rfl; first | exact .inl rfl | (right; (first | omega | (simp; done) | (simp; omega)))) | (rintro _ (rfl | rfl) <;> (right; (first | omega | (simp; done) | (simp; omega)))))))⟩
  case round =>
    obtain ⟨k, rfl, hk, hm⟩ := hrel
    have hsz := hm.size
    by_cases hlt : k < n
    · have hx' : l[k]? = some (l[k]'(by have := HL.out; omega)) := List.getElem?_eq_getElem (by have := HL.out; omega)
      generalize l[k]'(by have := HL.out; omega) = x at hx'
      obtain ⟨b, o, rfl, hbl, hcell⟩ := HR.out.form (by omega) (by omega)
      obtain ⟨b', o', rfl, hbl', hcell'⟩ := HR'.out.form (by omega) (by omega)
      have d0 : ∀ j, j < 7 → wr.cell? ⟨b, o + k * 7 + j, none⟩ = some (.int .i64 (x j)) := fun j hj => by rw [Nat.add_assoc]; exact (hm.cell (o + (k * 7 + j)) (by omega) id).trans (hcell (k * 7 + j) (.int .i64 (x j)) (evs_at l k x j hx' hj))
      have d1 : ∀ j, j < 7 → wr.cell? ⟨b', o' + k * 7 + j, none⟩ = some (.int .i64 (x j)) := fun j hj => by rw [Nat.add_assoc]; exact (hm.cell (o' + (k * 7 + j)) (by omega) id).trans (hcell' (k * 7 + j) (.int .i64 (x j)) (evs_at l k x j hx' hj))
      clear hx' hcell hcell'
      have q1 : wr.cell? ⟨b, o + k * 7, none⟩ = some (.int .i64 (x 0)) := d0 0 (by omega)
      have q2 := d0 1 (by omega)
      have q3 := d0 2 (by omega)
      have q4 := d0 3 (by omega)
      have q5 := d0 4 (by omega)
      have q6 := d0 5 (by omega)
      have q7 := d0 6 (by omega)
      have r1 : wr.cell? ⟨b', o' + k * 7, none⟩ = some (.int .i64 (x 0)) := d1 0 (by omega)
      have r2 := d1 1 (by omega)
      have r3 := d1 2 (by omega)
      have r4 := d1 3 (by omega)
      have r5 := d1 4 (by omega)
      have r6 := d1 5 (by omega)
      have r7 := d1 6 (by omega)
      clear d0 d1
      go_wp2
      go_region
      all_goals (go_wp2; go_roundw)
      all_goals first | exact ⟨k + 1, by go_num, by omega, (by repeat (first | with_reducible exact Mod.refl _ _ | with_reducible assumption | with_reducible refine Mod.alloc ?_ _ | with_reducible refine Mod.drew ?_ | with_reducible refine Mod.drewN ?_ _ | with_reducible refine Mod.setCell ?_ (by first | exact .inl rfl | (left; (try unfold from_); show _ ≤ _; first | omega | (simp; done) | (simp; omega)) | (right; first | omega | (simp; done) | (simp; omega))) _ | with_reducible refine Mod.call0 ?_ (by with_reducible assumption) | with_reducible refine Mod.call ?_ (by with_reducible assumption) (by first | (rintro _ rfl; first | exact .inl rfl | (right; (first | omega | (simp; done) | (simp; omega)))) | (rintro _ (rfl | rfl) <;> (right; (first | omega | (simp; done) | (simp; omega)))))))⟩ | (simp [intOf] <;> omega)
    · go_wp2
      go_ret
      exact ⟨rfl, hm⟩
end Go.Proofs.Ytcfpgecchappoaa
