/- What was put into an arena stands there: the law ArenaKeeps, walked. -/
import Derived.Test.YtkabgkkklegaoaaArena2
import Derived.Test.YtkabgkkklegaoaaArenatwo
import Derived.Test.YtkabgkkklegaoaaB2
import Derived.LoopTactic
import Derived.Outline
import Derived.Laws.StructEq
import Derived.Deep.Slices
namespace Go.Proofs.Ytkabgkkklegaoaa
open Go.RowKit Go.ChangeShapes Go.WideShapes Go.Deep Go.Joins Go.ChangeAt

section
variable {H : Type} {enc : TypeId × Value → H} {P : Program} {w : World} {base : Nat} {held : Bool}
/-- An argument that is a slice of arrays of whole numbers. -/
theorem open_arr_ints {r : Reach} {b0 m : Nat} {t e i : TypeId} {v : Value} {d : DataW H} {p : List MemPlace} (ht : P.underlying t = some (.slice e)) (he : P.underlying e = some (.array m i)) (hi : P.underlying i = some (.int .i64))
    (hc : P.cellsOf i = 1) (hC : P.cellsOf e = m) (hpos : 0 < m) (hv : Value.okWide P w r b0 t v) (h : DataW.Trod enc P w base (fun _ => true) held t v d p) :
    ∃ (A : Option Addr) (n c : Nat) (l : List (Nat → Int)), v = .slice A n c ∧ l.length = n ∧ IntRows w w.heap.size A n m l := by
  obtain ⟨a0, len, cap, rfl⟩ := okWide_slice ht hv
  obtain ⟨fuel, hf⟩ := h
  rcases open_slice ht hf with ⟨hcs, -⟩ | ⟨a, len', cap', m', n', D, Pl, hcs, -, hl, hm, hmm, -, hel⟩
  · obtain ⟨rfl, rfl, rfl⟩ : a0 = none ∧ len = 0 ∧ cap = 0 := by simpa [Value.cells] using hcs
    exact ⟨none, 0, 0, [], rfl, rfl, fun h => absurd h (by omega)⟩
  · obtain ⟨rfl, rfl, rfl⟩ : a0 = some a ∧ len = len' ∧ cap = cap' := by simpa [Value.cells] using hcs
    have hlm : len ≤ m' := by rw [hmm]; split <;> omega
    have each : ∀ q, q < len → ∃ x : Nat → Int, ∀ j, j < m → w.cell? (a.add (q * m + j)) = some (.int .i64 (x j)) := by
      intro q hq
      obtain ⟨cs', h1, h2⟩ := hel q (by omega)
      rw [hC] at h1
      obtain ⟨xs, n1, -, -, hlen, hxl, hx⟩ := DataW.trod_array he h2
      rw [hC] at hlen
      obtain ⟨_, _, hat⟩ := World.cells?_some h1
      refine ⟨fun j => numOf ((cs'[j]?).getD undef), fun j hj => ?_⟩
      have hxj := hx j hj
      rw [hc, Nat.mul_one, List.drop_eq_getElem_cons (by omega), List.take_succ_cons, List.take_zero, List.getElem?_eq_getElem (by omega)] at hxj
      obtain ⟨z, hz, -⟩ := lit_int_of hi hxj
      have e : cs'[j]? = some (.int .i64 z) := by rw [List.getElem?_eq_getElem (by omega), hz]
      rw [← Go.Deep.add_add, hat j hj, e]
      show some _ = some (Value.int .i64 (numOf ((cs'[j]?).getD undef)))
      rw [e]
      rfl
    obtain ⟨l, hll, hq⟩ := choose_list len each
    refine ⟨some a, len, cap, l, rfl, hll, fun hn => ?_⟩
    obtain ⟨x0, hx0⟩ : ∃ x, l[0]? = some x := ⟨l[0]'(by omega), List.getElem?_eq_getElem (by omega)⟩
    have h0 := hq 0 x0 hx0 0 hpos
    obtain ⟨b, o, sp⟩ := a
    have hsp : sp = none := by
      cases sp with
      | none => rfl
      | some z => simp [Addr.add, World.cell?] at h0; split at h0 <;> simp at h0
    subst hsp
    refine ⟨b, o, rfl, ?_, fun i x hx j hj => ?_⟩
    · have := World.block_lt_of_cell? w _ h0
      simpa [block_of_add] using this
    · have := hq i x hx j hj
      rwa [Addr.add_lit] at this
end

theorem eqin_two (v0 v1 u0 u1 : Int) (d : Nat) (w : World) : (Op.equalIn (d + 2) 46 (.agg #[.int .i64 v0, .int .i64 v1]) (.agg #[.int .i64 u0, .int .i64 u1])).run Try.prog w = .ok (v0 == u0 && v1 == u1) w := by
  rw [Op.equalIn]
  simp only [Sem.run_bind, run_underlying Try.underlying46, Result.andThen_ok]
  have hs : (sizeOf 3).run Try.prog w = .ok 1 w := by kernel_rfl
  have p0 : ∀ a b : Int, (part 3 #[.int .i64 a, .int .i64 b] 0).run Try.prog w = .ok (.int .i64 a) w := fun _ _ => by kernel_rfl
  have p1 : ∀ a b : Int, (part 3 #[.int .i64 a, .int .i64 b] 1).run Try.prog w = .ok (.int .i64 b) w := fun _ _ => by kernel_rfl
  simp [hs, p0, p1, Std.Legacy.Range.forIn_eq_forIn_range', List.range', Sem.run_bind, run_equalIn_int (P := Try.prog) w d 3 .i64 .i64 _ _ Try.underlying3]
  cases h0 : (v0 == u0) <;> cases h1 : (v1 == u1) <;> simp_all
theorem eqin_same (v0 v1 : Int) (w : World) : (Op.equalIn 10000 46 (.agg #[.int .i64 v0, .int .i64 v1]) (.agg #[.int .i64 v0, .int .i64 v1])).run Try.prog w = .ok true w := by
  have := eqin_two v0 v1 v0 v1 9998 w
  simpa using this

/-- The first p things of l stand in cs. -/
def Kept (l : List (Nat → Int)) (p : Nat) (cs : List Value) : Prop := ∀ j x, j < p → l[j]? = some x → cs[j * 2]? = some (.int .i64 (x 0)) ∧ cs[j * 2 + 1]? = some (.int .i64 (x 1))
theorem Kept.snoc {l : List (Nat → Int)} {p : Nat} {cs : List Value} {x : Nat → Int} (h : Kept l p cs) (hc : cs.length = p * 2) (hx : l[p]? = some x) : Kept l (p + 1) (cs ++ [.int .i64 (x 0), .int .i64 (x 1)]) := by
  intro j y hj hy
  by_cases hjp : j < p
  · obtain ⟨h1, h2⟩ := h j y hjp hy
    rw [List.getElem?_append_left (by omega), List.getElem?_append_left (by omega)]
    exact ⟨h1, h2⟩
  · obtain rfl : j = p := by omega
    rw [hx] at hy
    obtain rfl := Option.some.inj hy
    rw [List.getElem?_append_right (by omega), List.getElem?_append_right (by omega), hc]
    simp

set_option maxRecDepth 100000 in
set_option maxHeartbeats 4000000 in
theorem law_arenaKeeps (nn : Int) (A : Option Addr) (N c : Nat) (l : List (Nat → Int)) (w : World) (h0 : 0 ≤ nn) (h1 : nn ≤ 65535) (hl : l.length = N) (hr : IntRows w w.heap.size A N 2 l) :
    Calls Try.prog 6 #[.int .u16 nn, .slice A N c] w
     fun en w' => en = .returned (.bool true) ∧ Mod nowhere w w' := by
  by_cases g0 : 200 < N
  · go_enter Try.func6, Try.ntmps6
    go_wp2_with fail
    (with_reducible refine (alive2_calls _).mono ?_)
    rintro e w1 ⟨rfl, hbw1⟩
    have hzw1 := hbw1.size
    (try simp at hzw1)
    skip
    skip
    go_wp2
    go_ret
    exact ⟨rfl, (by repeat (first | with_reducible exact Mod.refl _ _ | with_reducible assumption | with_reducible refine Mod.alloc ?_ _ | with_reducible refine Mod.drew ?_ | with_reducible refine Mod.drewN ?_ _ | with_reducible refine Mod.setCell ?_ (by first | exact .inl rfl | (left; (try unfold from_); show _ ≤ _; first | omega | (simp; done) | (simp; omega)) | (right; first | omega | (simp; done) | (simp; omega))) _ | with_reducible refine Mod.call0 ?_ (by with_reducible assumption) | with_reducible refine Mod.call ?_ (by with_reducible assumption) (by first | (rintro _ rfl; first | exact .inl rfl | (right; (first | omega | (simp; done) | (simp; omega)))) | (rintro _ (rfl | rfl) <;> (right; (first | omega | (simp; done) | (simp; omega)))))))⟩
  have HR := hide hr
  have HL := hide hl
  clear hr hl
  have hq : 0 ≤ nn % 4096 ∧ nn % 4096 < 4096 := by omega
  go_enter Try.func6, Try.ntmps6
  go_wp2_with fail
  (with_reducible refine (alive2_calls _).mono ?_)
  rintro e w1 ⟨rfl, hbw1⟩
  have hzw1 := hbw1.size
  (try simp at hzw1)
  skip
  skip
  go_wp2_with fail
  generalize hm0 : 1 + nn % 4096 = m0
  have g1 : 1 ≤ m0 := by omega
  have g2 : m0 ≤ 4096 := by omega
  clear hm0
  go_wp2_with (go_at_call 20; (with_reducible refine (anew_two m0 _ g1 g2).mono ?_); rintro e w' ⟨rfl, rfl⟩)
  go_loopw [8, 9, 10, 11, 12, 13] (fun s8 _ _ _ _ _ wx => ∃ (k p r : Nat) (cs : List Value), s8 = .int .i64 k ∧ k ≤ N ∧ (p ≤ k ∧ (p : Int) ≤ m0 ∧ (p = k ∨ (p : Int) = m0)) ∧ Arn_two wx w1.heap.size r p m0 cs ∧ Kept l p cs ∧ w1.heap.size ≤ r ∧ Mod nowhere w wx)
    (fun s8 _ _ _ _ _ _ => (300 - (intOf s8)).toNat)
  case atStart =>
    refine ⟨0, 0, w1.heap.size, [], rfl, Nat.zero_le _, by omega, ?_, fun j x hj => absurd hj (by omega), by omega, (by repeat (first | with_reducible exact Mod.refl _ _ | with_reducible assumption | with_reducible refine Mod.alloc ?_ _ | with_reducible refine Mod.drew ?_ | with_reducible refine Mod.drewN ?_ _ | with_reducible refine Mod.setCell ?_ (by first | exact .inl rfl | (left; (try unfold from_); show _ ≤ _; first | omega | (simp; done) | (simp; omega)) | (right; first | omega | (simp; done) | (simp; omega))) _ | with_reducible refine Mod.call0 ?_ (by with_reducible assumption) | with_reducible refine Mod.call ?_ (by with_reducible assumption) (by first | (rintro _ rfl; first | exact .inl rfl | (right; (first | omega | (simp; done) | (simp; omega)))) | (rintro _ (rfl | rfl) <;> (right; (first | omega | (simp; done) | (simp; omega)))))))⟩
    exact Own.start (mk := fun s => #[s, .int .i64 m0]) (by repeat (first | with_reducible assumption | with_reducible apply Blk.new | with_reducible exact Blk.newAt (by first | rfl | (simp; done) | (simp; omega)) | with_reducible apply Blk.alloc | with_reducible apply Blk.drew | with_reducible apply Blk.drewN | with_reducible apply Blk.keep0 (hm := by with_reducible assumption) | with_reducible apply Blk.keep (hm := by with_reducible assumption) (hg := by first | omega | exact not_two (by omega) (by omega)) | with_reducible apply Blk.far (hp := by first | omega | (simp; done) | (simp; omega)) | with_reducible apply Blk.set1 | rfl))
  case round =>
    obtain ⟨k, p, r, cs, rfl, hk, hp, ha, hcs, b1, hmr⟩ := hrel
    have HCS := hide hcs
    have HP := hide hp
    have l_a := ha.lt
    clear hcs hp
    by_cases hlt : k < N
    · obtain ⟨b, o, rfl, hbl, hcell⟩ := HR.out (by omega)
      have HC := hide hcell
      have ex : l[k]? = some (l[k]'(by have := HL.out; omega)) := List.getElem?_eq_getElem (by have := HL.out; omega)
      generalize l[k]'(by have := HL.out; omega) = x at ex
      have d0 := (hmr.cell (o + (k * 2 + 0)) hbl (fun x => x)).trans (hcell k _ ex 0 (by omega))
      have d1 := (hmr.cell (o + (k * 2 + 1)) hbl (fun x => x)).trans (hcell k _ ex 1 (by omega))
      have HS := hide (fun h : p = k => HCS.out.snoc ha.len (by rw [h]; exact ex))
      generalize hx0 : x 0 = x0 at d0 HS
      generalize hx1 : x 1 = x1 at d1 HS
      simp only [Nat.add_zero, ← Nat.add_assoc] at d0 d1
      clear ex hcell hx0 hx1
      have hbr : b < wr.heap.size := by have := hmr.size; omega
      by_cases hkm : (k : Int) < m0
      · obtain rfl : p = k := by have := HP.out; omega
        have HS2 := hide (HS.out rfl)
        have e1 : decide ((p : Int) < m0) = true := by simp; omega
        have hp1 : ((p + 1 : Nat) : Int) ≤ m0 := by omega
        obtain ⟨k, hkp⟩ : ∃ k, k = p := ⟨_, rfl⟩
        go_wp2_with fail
        (with_reducible refine (aput_two x0 x1 w1.heap.size r p m0 cs _ ha (by omega) (by omega)).mono ?_)
        rintro e w5 ⟨rfl, ⟨r2, hq2, hn2, ha2⟩, hm5⟩
        have hz5 := hm5.size
        have l_2 := ha2.lt
        have hbr5 : b < w5.heap.size := by omega
        have hm6 : Mod nowhere w w5 := (by repeat (first | with_reducible exact Mod.refl _ _ | with_reducible assumption | with_reducible refine Mod.alloc ?_ _ | with_reducible refine Mod.drew ?_ | with_reducible refine Mod.drewN ?_ _ | with_reducible refine Mod.setCell ?_ (by first | exact .inl rfl | (left; (try unfold from_); show _ ≤ _; first | omega | (simp; done) | (simp; omega)) | (right; first | omega | (simp; done) | (simp; omega))) _ | with_reducible refine Mod.call0 ?_ (by with_reducible assumption) | with_reducible refine Mod.call ?_ (by with_reducible assumption) (by first | (rintro _ rfl; first | exact .inl rfl | (right; (first | omega | (simp; done) | (simp; omega)))) | (rintro _ (rfl | rfl) <;> (right; (first | omega | (simp; done) | (simp; omega)))))))
        clear d0 d1 e1
        obtain rfl := hkp
        obtain ⟨wo, hwo⟩ : ∃ wo : World, wo = w5 := ⟨_, rfl⟩
        subst hwo
        go_wp2_with fail
        go_loopw [11, 12, 13] (fun s11 _ _ wx => ∃ (j : Nat), s11 = .int .i64 j ∧ j ≤ (k + 1) ∧ Mod nowhere wo wx)
          (fun s11 _ _ _ => (300 - (intOf s11)).toNat)
        case atStart => exact ⟨0, rfl, Nat.zero_le _, Mod.refl _ _⟩
        case round =>
          obtain ⟨j, rfl, hj, hmj⟩ := hrel
          by_cases hjp : j < (k + 1)
          · have hjN : j < N := by omega
            have ex : l[j]? = some (l[j]'(by have := HL.out; omega)) := List.getElem?_eq_getElem (by have := HL.out; omega)
            generalize l[j]'(by have := HL.out; omega) = y at ex
            have hmw : Mod nowhere w wr := (by repeat (first | with_reducible exact Mod.refl _ _ | with_reducible assumption | with_reducible refine Mod.alloc ?_ _ | with_reducible refine Mod.drew ?_ | with_reducible refine Mod.drewN ?_ _ | with_reducible refine Mod.setCell ?_ (by first | exact .inl rfl | (left; (try unfold from_); show _ ≤ _; first | omega | (simp; done) | (simp; omega)) | (right; first | omega | (simp; done) | (simp; omega))) _ | with_reducible refine Mod.call0 ?_ (by with_reducible assumption) | with_reducible refine Mod.call ?_ (by with_reducible assumption) (by first | (rintro _ rfl; first | exact .inl rfl | (right; (first | omega | (simp; done) | (simp; omega)))) | (rintro _ (rfl | rfl) <;> (right; (first | omega | (simp; done) | (simp; omega)))))))
            have y0 := (hmw.cell (o + (j * 2 + 0)) hbl (fun x => x)).trans (HC.out j _ ex 0 (by omega))
            have y1 := (hmw.cell (o + (j * 2 + 1)) hbl (fun x => x)).trans (HC.out j _ ex 1 (by omega))
            obtain ⟨f0, f1⟩ := HS2.out j y hjp ex
            generalize y 0 = v0 at y0 f0
            generalize y 1 = v1 at y1 f1
            simp only [Nat.add_zero, ← Nat.add_assoc] at y0 y1
            have F0 := hide f0
            have F1 := hide f1
            have hbr : b < wr.heap.size := by have := hmw.size; omega
            clear ex f0 f1
            have hj1 : (j : Int) ≤ (k : Int) := by omega
            have hj2 : (j : Int) < m0 := by omega
            go_wp2_with fail
            (with_reducible refine (aat_two v0 v1 w1.heap.size r2 (k + 1) m0 (cs ++ [.int .i64 x0, .int .i64 x1]) j j rfl _ (Own.keep0 ha2 hmj) hjp (by omega) F0.out F1.out).mono ?_)
            rintro e w6 ⟨rfl, hbw6⟩
            have hzw6 := hbw6.size
            (try simp at hzw6)
            (try (have ltw60 : b < w6.heap.size := (by omega); have lcw60 := fun o => hbw6.cell (b := b) o (by first | omega | (simp; done) | (simp; omega)) (id); have lfw60 := fun o => hbw6.frozen (b := b) o (by first | omega | (simp; done) | (simp; omega)) (id)))
            skip
            have hE := eqin_same
            go_wp2_with fail
            go_region
            all_goals
              go_wp2
              go_roundw
              case rel => exact ⟨j + 1, by go_num, by omega, (by repeat (first | with_reducible exact Mod.refl _ _ | with_reducible assumption | with_reducible refine Mod.alloc ?_ _ | with_reducible refine Mod.drew ?_ | with_reducible refine Mod.drewN ?_ _ | with_reducible refine Mod.setCell ?_ (by first | exact .inl rfl | (left; (try unfold from_); show _ ≤ _; first | omega | (simp; done) | (simp; omega)) | (right; first | omega | (simp; done) | (simp; omega))) _ | with_reducible refine Mod.call0 ?_ (by with_reducible assumption) | with_reducible refine Mod.call ?_ (by with_reducible assumption) (by first | (rintro _ rfl; first | exact .inl rfl | (right; (first | omega | (simp; done) | (simp; omega)))) | (rintro _ (rfl | rfl) <;> (right; (first | omega | (simp; done) | (simp; omega)))))))⟩
              case measure => simp [intOf] <;> omega
          · obtain rfl : (k + 1) = j := by omega
            have hmw : Mod nowhere w wr := (by repeat (first | with_reducible exact Mod.refl _ _ | with_reducible assumption | with_reducible refine Mod.alloc ?_ _ | with_reducible refine Mod.drew ?_ | with_reducible refine Mod.drewN ?_ _ | with_reducible refine Mod.setCell ?_ (by first | exact .inl rfl | (left; (try unfold from_); show _ ≤ _; first | omega | (simp; done) | (simp; omega)) | (right; first | omega | (simp; done) | (simp; omega))) _ | with_reducible refine Mod.call0 ?_ (by with_reducible assumption) | with_reducible refine Mod.call ?_ (by with_reducible assumption) (by first | (rintro _ rfl; first | exact .inl rfl | (right; (first | omega | (simp; done) | (simp; omega)))) | (rintro _ (rfl | rfl) <;> (right; (first | omega | (simp; done) | (simp; omega)))))))
            have ha9 := Own.keep0 ha2 hmj
            go_wp2
            all_goals
              go_roundw
              case rel => exact ⟨k + 1, (k + 1), r2, (cs ++ [.int .i64 x0, .int .i64 x1]), by go_num, by omega, by omega, ha9, HS2.out, by omega, (by repeat (first | with_reducible exact Mod.refl _ _ | with_reducible assumption | with_reducible refine Mod.alloc ?_ _ | with_reducible refine Mod.drew ?_ | with_reducible refine Mod.drewN ?_ _ | with_reducible refine Mod.setCell ?_ (by first | exact .inl rfl | (left; (try unfold from_); show _ ≤ _; first | omega | (simp; done) | (simp; omega)) | (right; first | omega | (simp; done) | (simp; omega))) _ | with_reducible refine Mod.call0 ?_ (by with_reducible assumption) | with_reducible refine Mod.call ?_ (by with_reducible assumption) (by first | (rintro _ rfl; first | exact .inl rfl | (right; (first | omega | (simp; done) | (simp; omega)))) | (rintro _ (rfl | rfl) <;> (right; (first | omega | (simp; done) | (simp; omega)))))))⟩
              case measure => simp [intOf] <;> omega
      · have hpm : (p : Int) = m0 := by have := HP.out; omega
        have e1 : decide ((k : Int) < m0) = false := by simp; omega
        have hp1 : (p : Int) ≤ m0 ∧ p ≤ k := by omega
        have HPM := hide hpm
        have hpm2 : m0 ≤ (p : Int) := by omega
        clear hpm
        go_wp2_with fail
        (with_reducible refine (aput_full_two x0 x1 w1.heap.size r p m0 cs _ ha (by omega)).mono ?_)
        rintro e w5 ⟨rfl, hm5⟩
        have hz5 := hm5.size
        have ha2 := Own.keep0 ha hm5
        have hbr5 : b < w5.heap.size := by omega
        have hm6 : Mod nowhere w w5 := (by repeat (first | with_reducible exact Mod.refl _ _ | with_reducible assumption | with_reducible refine Mod.alloc ?_ _ | with_reducible refine Mod.drew ?_ | with_reducible refine Mod.drewN ?_ _ | with_reducible refine Mod.setCell ?_ (by first | exact .inl rfl | (left; (try unfold from_); show _ ≤ _; first | omega | (simp; done) | (simp; omega)) | (right; first | omega | (simp; done) | (simp; omega))) _ | with_reducible refine Mod.call0 ?_ (by with_reducible assumption) | with_reducible refine Mod.call ?_ (by with_reducible assumption) (by first | (rintro _ rfl; first | exact .inl rfl | (right; (first | omega | (simp; done) | (simp; omega)))) | (rintro _ (rfl | rfl) <;> (right; (first | omega | (simp; done) | (simp; omega)))))))
        clear d0 d1
        obtain ⟨wo, hwo⟩ : ∃ wo : World, wo = w5 := ⟨_, rfl⟩
        subst hwo
        go_wp2_with fail
        go_loopw [11, 12, 13] (fun s11 _ _ wx => ∃ (j : Nat), s11 = .int .i64 j ∧ j ≤ p ∧ Mod nowhere wo wx)
          (fun s11 _ _ _ => (300 - (intOf s11)).toNat)
        case atStart => exact ⟨0, rfl, Nat.zero_le _, Mod.refl _ _⟩
        case round =>
          obtain ⟨j, rfl, hj, hmj⟩ := hrel
          by_cases hjp : j < p
          · have hjN : j < N := by omega
            have ex : l[j]? = some (l[j]'(by have := HL.out; omega)) := List.getElem?_eq_getElem (by have := HL.out; omega)
            generalize l[j]'(by have := HL.out; omega) = y at ex
            have hmw : Mod nowhere w wr := (by repeat (first | with_reducible exact Mod.refl _ _ | with_reducible assumption | with_reducible refine Mod.alloc ?_ _ | with_reducible refine Mod.drew ?_ | with_reducible refine Mod.drewN ?_ _ | with_reducible refine Mod.setCell ?_ (by first | exact .inl rfl | (left; (try unfold from_); show _ ≤ _; first | omega | (simp; done) | (simp; omega)) | (right; first | omega | (simp; done) | (simp; omega))) _ | with_reducible refine Mod.call0 ?_ (by with_reducible assumption) | with_reducible refine Mod.call ?_ (by with_reducible assumption) (by first | (rintro _ rfl; first | exact .inl rfl | (right; (first | omega | (simp; done) | (simp; omega)))) | (rintro _ (rfl | rfl) <;> (right; (first | omega | (simp; done) | (simp; omega)))))))
            have y0 := (hmw.cell (o + (j * 2 + 0)) hbl (fun x => x)).trans (HC.out j _ ex 0 (by omega))
            have y1 := (hmw.cell (o + (j * 2 + 1)) hbl (fun x => x)).trans (HC.out j _ ex 1 (by omega))
            obtain ⟨f0, f1⟩ := HCS.out j y hjp ex
            generalize y 0 = v0 at y0 f0
            generalize y 1 = v1 at y1 f1
            simp only [Nat.add_zero, ← Nat.add_assoc] at y0 y1
            have F0 := hide f0
            have F1 := hide f1
            have hbr : b < wr.heap.size := by have := hmw.size; omega
            clear ex f0 f1
            have hj1 : (j : Int) ≤ (k : Int) := by omega
            have hj2 : (j : Int) < m0 := by omega
            go_wp2_with fail
            (with_reducible refine (aat_two v0 v1 w1.heap.size r p m0 cs j j rfl _ (Own.keep0 ha2 hmj) hjp (by omega) F0.out F1.out).mono ?_)
            rintro e w6 ⟨rfl, hbw6⟩
            have hzw6 := hbw6.size
            (try simp at hzw6)
            (try (have ltw60 : b < w6.heap.size := (by omega); have lcw60 := fun o => hbw6.cell (b := b) o (by first | omega | (simp; done) | (simp; omega)) (id); have lfw60 := fun o => hbw6.frozen (b := b) o (by first | omega | (simp; done) | (simp; omega)) (id)))
            skip
            have hE := eqin_same
            go_wp2_with fail
            go_region
            all_goals
              go_wp2
              go_roundw
              case rel => exact ⟨j + 1, by go_num, by omega, (by repeat (first | with_reducible exact Mod.refl _ _ | with_reducible assumption | with_reducible refine Mod.alloc ?_ _ | with_reducible refine Mod.drew ?_ | with_reducible refine Mod.drewN ?_ _ | with_reducible refine Mod.setCell ?_ (by first | exact .inl rfl | (left; (try unfold from_); show _ ≤ _; first | omega | (simp; done) | (simp; omega)) | (right; first | omega | (simp; done) | (simp; omega))) _ | with_reducible refine Mod.call0 ?_ (by with_reducible assumption) | with_reducible refine Mod.call ?_ (by with_reducible assumption) (by first | (rintro _ rfl; first | exact .inl rfl | (right; (first | omega | (simp; done) | (simp; omega)))) | (rintro _ (rfl | rfl) <;> (right; (first | omega | (simp; done) | (simp; omega)))))))⟩
              case measure => simp [intOf] <;> omega
          · obtain rfl : p = j := by omega
            have hmw : Mod nowhere w wr := (by repeat (first | with_reducible exact Mod.refl _ _ | with_reducible assumption | with_reducible refine Mod.alloc ?_ _ | with_reducible refine Mod.drew ?_ | with_reducible refine Mod.drewN ?_ _ | with_reducible refine Mod.setCell ?_ (by first | exact .inl rfl | (left; (try unfold from_); show _ ≤ _; first | omega | (simp; done) | (simp; omega)) | (right; first | omega | (simp; done) | (simp; omega))) _ | with_reducible refine Mod.call0 ?_ (by with_reducible assumption) | with_reducible refine Mod.call ?_ (by with_reducible assumption) (by first | (rintro _ rfl; first | exact .inl rfl | (right; (first | omega | (simp; done) | (simp; omega)))) | (rintro _ (rfl | rfl) <;> (right; (first | omega | (simp; done) | (simp; omega)))))))
            have ha9 := Own.keep0 ha2 hmj
            go_wp2
            all_goals
              go_roundw
              case rel => exact ⟨k + 1, p, r, cs, by go_num, by omega, by omega, ha9, HCS.out, by omega, (by repeat (first | with_reducible exact Mod.refl _ _ | with_reducible assumption | with_reducible refine Mod.alloc ?_ _ | with_reducible refine Mod.drew ?_ | with_reducible refine Mod.drewN ?_ _ | with_reducible refine Mod.setCell ?_ (by first | exact .inl rfl | (left; (try unfold from_); show _ ≤ _; first | omega | (simp; done) | (simp; omega)) | (right; first | omega | (simp; done) | (simp; omega))) _ | with_reducible refine Mod.call0 ?_ (by with_reducible assumption) | with_reducible refine Mod.call ?_ (by with_reducible assumption) (by first | (rintro _ rfl; first | exact .inl rfl | (right; (first | omega | (simp; done) | (simp; omega)))) | (rintro _ (rfl | rfl) <;> (right; (first | omega | (simp; done) | (simp; omega)))))))⟩
              case measure => simp [intOf] <;> omega
    · obtain rfl : k = N := by omega
      have hp := HP.out
      clear HP
      by_cases hkm : (k : Int) ≤ m0
      · obtain rfl : p = k := by omega
        clear hp
        go_wp2_with (go_at_call 23; (with_reducible refine (alen_two _ _ _ _ _ _ ha).mono ?_); rintro e w' ⟨rfl, rfl⟩)
        go_ret
        exact ⟨rfl, (by repeat (first | with_reducible exact Mod.refl _ _ | with_reducible assumption | with_reducible refine Mod.alloc ?_ _ | with_reducible refine Mod.drew ?_ | with_reducible refine Mod.drewN ?_ _ | with_reducible refine Mod.setCell ?_ (by first | exact .inl rfl | (left; (try unfold from_); show _ ≤ _; first | omega | (simp; done) | (simp; omega)) | (right; first | omega | (simp; done) | (simp; omega))) _ | with_reducible refine Mod.call0 ?_ (by with_reducible assumption) | with_reducible refine Mod.call ?_ (by with_reducible assumption) (by first | (rintro _ rfl; first | exact .inl rfl | (right; (first | omega | (simp; done) | (simp; omega)))) | (rintro _ (rfl | rfl) <;> (right; (first | omega | (simp; done) | (simp; omega)))))))⟩
      · have hpm : (p : Int) = m0 := by omega
        have hpm2 : ¬ (k : Int) ≤ m0 := hkm
        have e2 : ((p : Int) == m0) = true := beq_iff_eq.2 hpm
        clear hp hpm
        go_wp2_with (go_at_call 23; (with_reducible refine (alen_two _ _ _ _ _ _ ha).mono ?_); rintro e w' ⟨rfl, rfl⟩)
        go_ret
        exact ⟨rfl, (by repeat (first | with_reducible exact Mod.refl _ _ | with_reducible assumption | with_reducible refine Mod.alloc ?_ _ | with_reducible refine Mod.drew ?_ | with_reducible refine Mod.drewN ?_ _ | with_reducible refine Mod.setCell ?_ (by first | exact .inl rfl | (left; (try unfold from_); show _ ≤ _; first | omega | (simp; done) | (simp; omega)) | (right; first | omega | (simp; done) | (simp; omega))) _ | with_reducible refine Mod.call0 ?_ (by with_reducible assumption) | with_reducible refine Mod.call ?_ (by with_reducible assumption) (by first | (rintro _ rfl; first | exact .inl rfl | (right; (first | omega | (simp; done) | (simp; omega)))) | (rintro _ (rfl | rfl) <;> (right; (first | omega | (simp; done) | (simp; omega)))))))⟩
end Go.Proofs.Ytkabgkkklegaoaa
