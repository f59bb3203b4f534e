/- New of some objects: cells, and their words. -/
import Derived.Test.YtanmibdnnjfpbaaCells4
import Derived.Test.YtanmibdnnjfpbaaDescFam
import Derived.LoopTactic
namespace Go.Proofs.Ytanmibdnnjfpbaa
open Go.RowKit

theorem ainfo_w : (Try.prog.info? 71).map (fun i => (i.zero, i.size, i.bytes)) = some (some (.pointer none), 1, 8) := by kernel_rfl

/-- Cells (block c, row rc) of the arena a: k objects, whose words are s i and whose locators have the numbers v i. -/
structure CF (w : World) (B c a rc r k N : Nat) (most : Int) (ws cs : List Value) (s v : Nat → Nat) : Prop where
  arn : Arn_rec w a r N most cs
  cls : Cls w c a rc k ws
  at_ : ∀ i, i < k → ws[i]? = some (.pointer (some ⟨s i, 0, none⟩))
  wrd : ∀ i, i < k → ∃ acc, IsWord w (s i) (v i : Int) acc
  dd : ∀ i j, i < k → j < k → i ≠ j → s i ≠ s j
  ap : ∀ i, i < k → s i ≠ c ∧ s i ≠ rc ∧ s i ≠ a ∧ s i ≠ r
  ne : c ≠ a ∧ c ≠ r ∧ rc ≠ a ∧ rc ≠ r
  bs : ∀ i, i < k → B ≤ s i
  old : B ≤ c ∧ B ≤ rc
section
variable {w w' : World} {B c a rc r k N : Nat} {most : Int} {ws cs : List Value} {s v : Nat → Nat}
theorem CF.keep0 (h : CF w B c a rc r k N most ws cs s v) (hm : Mod nowhere w w') : CF w' B c a rc r k N most ws cs s v :=
  { h with arn := Own.keep0 h.arn hm, cls := Own.keep0 h.cls hm, wrd := fun i hi => (h.wrd i hi).elim fun acc ha => ⟨acc, Blk.keep0 ha hm⟩ }
theorem CF.congr {v' : Nat → Nat} (h : CF w B c a rc r k N most ws cs s v) (e : ∀ i, i < k → v i = v' i) : CF w B c a rc r k N most ws cs s v' :=
  { h with wrd := fun i hi => e i hi ▸ h.wrd i hi }
theorem CF.lts (h : CF w B c a rc r k N most ws cs s v) {i : Nat} (hi : i < k) : s i < w.heap.size := (h.wrd i hi).elim fun _ ha => ha.lt
/-- The word of one object was touched. -/
theorem CF.touch (h : CF w B c a rc r k N most ws cs s v) {i : Nat} (hi : i < k) (hm : Mod (· = s i) w w') {x : Nat} {acc : Int} (h1 : IsWord w' (s i) (x : Int) acc) :
    CF w' B c a rc r k N most ws cs s (upd v i x) := by
  have hap := h.ap i hi
  refine { h with arn := Own.keep h.arn hm (by omega) (by omega), cls := Own.keep h.cls hm (by omega) (by omega), wrd := fun j hj => ?_ }
  by_cases hij : j = i
  · subst hij; rw [upd_same]; exact ⟨acc, h1⟩
  · rw [upd_other _ _ hij]
    obtain ⟨acc', ha⟩ := h.wrd j hj
    have := h.dd j i hj hi hij
    exact ⟨acc', Blk.keep ha hm (by omega)⟩
/-- Records were put into the arena (its row may lie elsewhere now), and other blocks may have been written. -/
theorem CF.put {S : Nat → Prop} (h : CF w B c a rc r k N most ws cs s v) {r' N' : Nat} {cs' : List Value} (ha : Arn_rec w' a r' N' most cs') (hr : r' = r ∨ w.heap.size ≤ r') (hm : Mod S w w')
    (hc : ¬ S c) (hrc : ¬ S rc) (hs : ∀ i, i < k → ¬ S (s i)) : CF w' B c a rc r' k N' most ws cs' s v := by
  have hne := h.ne
  have l_c := h.cls.lt
  refine { h with arn := ha, cls := Own.keep h.cls hm hc hrc, wrd := fun i hi => ?_, ap := fun i hi => ?_, ne := ?_ }
  · obtain ⟨acc', ha⟩ := h.wrd i hi
    exact ⟨acc', Blk.keep ha hm (hs i hi)⟩
  · have := h.ap i hi
    have := h.lts hi
    omega
  · omega
theorem CF.more (h : CF w B c a rc r k N most ws cs s v) (hB : B ≤ w.heap.size) {rc' r' N' s0 v0 : Nat} {acc : Int} {cs' : List Value} (ha : Arn_rec w' a r' N' most cs') (hr : r' = r ∨ w.heap.size ≤ r')
    (hcl : Cls w' c a rc' (k + 1) (ws ++ [.pointer (some ⟨s0, 0, none⟩)])) (hrc : rc' = rc ∨ w.heap.size ≤ rc') (hne' : rc' ≠ r') (hrcc : rc' ≠ c)
    (hw : IsWord w' s0 (v0 : Int) acc) (hs0 : w.heap.size ≤ s0) (hs1 : s0 ≠ r') (hm : Mod (fun b => b = a ∨ b = r ∨ b = c ∨ b = rc) w w') (hl : ws.length = k) :
    CF w' B c a rc' r' (k + 1) N' most (ws ++ [.pointer (some ⟨s0, 0, none⟩)]) cs' (upd s k s0) (upd v k v0) := by
  have l_c := h.cls.lt
  have l_a := h.arn.lt
  have hne := h.ne
  have hold := h.old
  have hk : ∀ i, i < k + 1 → i ≠ k → i < k := fun i _ _ => by omega
  have hs2 : s0 ≠ rc' := by
    intro e; subst e; obtain ⟨cur, hc⟩ := Own.rowBlk hcl hrcc; exact absurd rfl (Blk.ne_ hw hc (by decide))
  constructor
  · exact ha
  · exact hcl
  · intro i hi
    by_cases hik : i = k
    · subst hik; rw [upd_same, List.getElem?_append_right (by omega), hl]; simp
    · rw [upd_other _ _ hik]; exact getElem?_left (h.at_ i (hk i hi hik))
  · intro i hi
    by_cases hik : i = k
    · subst hik; rw [upd_same, upd_same]; exact ⟨acc, hw⟩
    · rw [upd_other _ _ hik, upd_other _ _ hik]
      have := h.ap i (hk i hi hik)
      obtain ⟨acc', ha'⟩ := h.wrd i (hk i hi hik)
      exact ⟨acc', Blk.keep ha' hm (by omega)⟩
  · intro i j hi hj hij
    by_cases hik : i = k
    · subst hik
      have := h.lts (hk j hj (by omega))
      rw [upd_same, upd_other _ _ (by omega)]
      omega
    · have h1 := h.lts (hk i hi hik)
      rw [upd_other _ _ hik]
      by_cases hjk : j = k
      · subst hjk; rw [upd_same]; omega
      · rw [upd_other _ _ hjk]; exact h.dd i j (hk i hi hik) (hk j hj hjk) hij
  · intro i hi
    by_cases hik : i = k
    · subst hik; rw [upd_same]; omega
    · have h1 := h.lts (hk i hi hik)
      have h3 := h.ap i (hk i hi hik)
      rw [upd_other _ _ hik]
      omega
  · omega
  · intro i hi
    by_cases hik : i = k
    · subst hik; rw [upd_same]; omega
    · rw [upd_other _ _ hik]; exact h.bs i (hk i hi hik)
  · omega
end
/-- What the first records hold: of each object a version and a locator of nobody's. -/
def First (l : List Int) (k : Nat) (cs : List Value) : Prop := ∀ i x, i < k → l[i]? = some x →
  Rec9 cs (2 * i) 1 x 0 0 0 0 0 0 0 ∧ Rec9 cs (2 * i + 1) 2 0 (-1) (2 * (i : Int)) (2 * (i : Int)) 0 0 0 0
theorem First.more {l : List Int} {k : Nat} {cs cs' : List Value} (h : First l k cs) : First l k (cs ++ cs') := fun i x hi hx => ⟨(h i x hi hx).1.more, (h i x hi hx).2.more⟩
theorem First.snoc {l : List Int} {k : Nat} {cs : List Value} {x : Int} (h : First l k cs) (hx : l[k]? = some x) (h1 : Rec9 cs (2 * k) 1 x 0 0 0 0 0 0 0) (h2 : Rec9 cs (2 * k + 1) 2 0 (-1) (2 * (k : Int)) (2 * (k : Int)) 0 0 0 0) : First l (k + 1) cs := by
  intro i y hi hy
  by_cases hik : i < k
  · exact h i y hik hy
  · obtain rfl : i = k := by omega
    rw [hx] at hy
    obtain rfl := Option.some.inj hy
    exact ⟨h1, h2⟩

set_option maxRecDepth 100000 in
set_option maxHeartbeats 8000000 in
theorem cnew_ok (l : List Int) (a b o cap n : Nat) (most : Int) (w : World) (hl : l.length = n) (h1 : 1 ≤ n) (h8 : n ≤ 8) (h2 : 2 * (n : Int) ≤ most) (h4 : most ≤ 4096) (ha : Arn_rec w a a 0 most []) (hb : b < w.heap.size) (hne : b ≠ a) (hx : ∀ k x, l[k]? = some x → w.cell? ⟨b, o + k, none⟩ = some (.int .i64 x)) :
    Calls Try.prog 23 #[.pointer (some ⟨a, 0, none⟩), .slice (some ⟨b, o, none⟩) n cap] w fun e w' => ∃ c r rc ws cs s, e = .returned (.tuple #[.pointer (some ⟨c, 0, none⟩), .int .i64 0]) ∧ CF w' w.heap.size c a rc r n (2 * n) most ws cs s (fun i => 2 * i + 1) ∧ First l n cs ∧ (r = a ∨ w.heap.size ≤ r) ∧ Mod (· = a) w w' := by
  have l_a := ha.lt
  have HX := hide hx
  have HL := hide hl
  clear hx hl
  have z1 : decide (n < 1) = false := by simp; omega
  have z2 : decide (8 < n) = false := by simp; omega
  go_enter Try.func23, Try.ntmps23
  go_wp2_with (go_at_call 35; (with_reducible refine (aleft_rec a a 0 most [] _ (by exact (by repeat (first | with_reducible assumption | with_reducible apply Own.drew | with_reducible apply Own.drewN | with_reducible apply Own.alloc | with_reducible apply Own.keep0 (hm := by with_reducible assumption) | with_reducible apply Own.keep (hm := by with_reducible assumption) (hg := by first | omega | exact not_two (by omega) (by omega)) (hr := by first | omega | exact not_two (by omega) (by omega)) | with_reducible apply Own.far (hg := by first | omega | (simp; omega)) (hr := by first | omega | (simp; omega))))) (by omega) (by omega)).mono ?_); rintro e w5 ⟨rfl, hbw5⟩; have hzw5 := hbw5.size; (try simp at hzw5); skip; skip)
  have y5 : Mod nowhere w w5 := (by repeat (first | with_reducible exact Mod.refl _ _ | with_reducible assumption | with_reducible refine Mod.alloc ?_ _ | with_reducible refine Mod.drew ?_ | with_reducible refine Mod.drewN ?_ _ | with_reducible refine Mod.setCell ?_ (by first | exact .inl rfl | (left; (try unfold from_); show _ ≤ _; first | omega | (simp; done) | (simp; omega)) | (right; first | omega | (simp; done) | (simp; omega))) _ | with_reducible refine Mod.call0 ?_ (by with_reducible assumption) | with_reducible refine Mod.call ?_ (by with_reducible assumption) (by first | (rintro _ rfl; first | exact .inl rfl | (right; (first | omega | (simp; done) | (simp; omega)))) | (rintro _ (rfl | rfl) <;> (right; (first | omega | (simp; done) | (simp; omega)))))))
  have zy5 := y5.size
  go_loopw [8, 9, 10, 11, 12, 37] (fun _ _ _ _ _ s37 wx => ∃ (k r rc : Nat) (ws cs : List Value) (s : Nat → Nat), s37 = .int .i64 k ∧ k ≤ n ∧ CF wx w.heap.size w5.heap.size a rc r k (2 * k) most ws cs s (fun i => 2 * i + 1) ∧ First l k cs ∧ (r = a ∨ w.heap.size ≤ r) ∧ Mod (· = a) w wx)
    (fun _ _ _ _ _ s37 _ => (300 - (intOf s37)).toNat)
  case atStart => exact ⟨0, a, w5.heap.size, [], [], fun _ => 0, rfl, Nat.zero_le _, { arn := (by repeat (first | with_reducible assumption | with_reducible apply Own.drew | with_reducible apply Own.drewN | with_reducible apply Own.alloc | with_reducible apply Own.keep0 (hm := by with_reducible assumption) | with_reducible apply Own.keep (hm := by with_reducible assumption) (hg := by first | omega | exact not_two (by omega) (by omega)) (hr := by first | omega | exact not_two (by omega) (by omega)) | with_reducible apply Own.far (hg := by first | omega | (simp; omega)) (hr := by first | omega | (simp; omega)))), cls := Own.start (by repeat (first | with_reducible assumption | with_reducible apply Blk.new | with_reducible exact Blk.newAt (by first | rfl | (simp; done) | (simp; omega)) | with_reducible apply Blk.alloc | with_reducible apply Blk.drew | with_reducible apply Blk.drewN | with_reducible apply Blk.keep0 (hm := by with_reducible assumption) | with_reducible apply Blk.keep (hm := by with_reducible assumption) (hg := by first | omega | exact not_two (by omega) (by omega)) | with_reducible apply Blk.far (hp := by first | omega | (simp; done) | (simp; omega)) | with_reducible apply Blk.set1 | rfl)), at_ := fun i hi => absurd hi (by omega), wrd := fun i hi => absurd hi (by omega), dd := fun i j hi => absurd hi (by omega), ap := fun i hi => absurd hi (by omega), ne := by omega, bs := fun i hi => absurd hi (by omega), old := by omega }, fun i x hi => absurd hi (by omega), .inl rfl, ((by repeat (first | with_reducible exact Mod.refl _ _ | with_reducible assumption | with_reducible refine Mod.alloc ?_ _ | with_reducible refine Mod.drew ?_ | with_reducible refine Mod.drewN ?_ _ | with_reducible refine Mod.setCell ?_ (by first | exact .inl rfl | (left; (try unfold from_); show _ ≤ _; first | omega | (simp; done) | (simp; omega)) | (right; first | omega | (simp; done) | (simp; omega))) _ | with_reducible refine Mod.call0 ?_ (by with_reducible assumption) | with_reducible refine Mod.call ?_ (by with_reducible assumption) (by first | (rintro _ rfl; first | exact .inl rfl | (right; (first | omega | (simp; done) | (simp; omega)))) | (rintro _ (rfl | rfl) <;> (right; (first | omega | (simp; done) | (simp; omega))))))) : Mod nowhere w _).mono fun _ h => h.elim⟩
  case round =>
    obtain ⟨k, r, rc, ws, cs, s, rfl, hk, hF, hRc, hra, hmr⟩ := hrel
    have hsz := hmr.size
    by_cases hlt : k < n
    · have hx' : l[k]? = some (l[k]'(by have := HL.out; omega)) := List.getElem?_eq_getElem (by have := HL.out; omega)
      generalize l[k]'(by have := HL.out; omega) = x at hx'
      have cx := (hmr.cell (o + k) hb hne).trans (HX.out k x hx')
      have fx := hmr.frozen (o + k) hb hne
      have HK := hide hx'
      have HRc := hide hRc
      clear hx' hRc
      obtain ⟨A0, cap0, hcb, ho, hrr⟩ := hF.cls.open_
      have hlw : ws.length = k := (hF.cls.len).trans (Nat.mul_one _)
      have HR := hide hrr
      clear hrr
      obtain ⟨i0, hi, hz0, hz1, hz2⟩ := info_parts ainfo_w
      have hne0 := hF.ne
      have l_c := hF.cls.lt
      have l_r := hF.arn.lt
      have hold := hF.old
      have hbr : b < wr.heap.size := by omega
      have hcb' : IsCl wr w5.heap.size a (.slice A0 k cap0) := hcb
      go_wp2_with fail
      (with_reducible refine (ver_ok x w5.heap.size a r (2 * k) (.slice A0 k cap0) most cs _ (by exact (by repeat (first | with_reducible assumption | with_reducible apply Blk.new | with_reducible exact Blk.newAt (by first | rfl | (simp; done) | (simp; omega)) | with_reducible apply Blk.alloc | with_reducible apply Blk.drew | with_reducible apply Blk.drewN | with_reducible apply Blk.keep0 (hm := by with_reducible assumption) | with_reducible apply Blk.keep (hm := by with_reducible assumption) (hg := by first | omega | exact not_two (by omega) (by omega)) | with_reducible apply Blk.far (hp := by first | omega | (simp; done) | (simp; omega)) | with_reducible apply Blk.set1 | rfl))) (by exact Own.keep0 hF.arn (by repeat (first | with_reducible exact Mod.refl _ _ | with_reducible assumption | with_reducible refine Mod.alloc ?_ _ | with_reducible refine Mod.drew ?_ | with_reducible refine Mod.drewN ?_ _ | with_reducible refine Mod.setCell ?_ (by first | exact .inl rfl | (left; (try unfold from_); show _ ≤ _; first | omega | (simp; done) | (simp; omega)) | (right; first | omega | (simp; done) | (simp; omega))) _ | with_reducible refine Mod.call0 ?_ (by with_reducible assumption) | with_reducible refine Mod.call ?_ (by with_reducible assumption) (by first | (rintro _ rfl; first | exact .inl rfl | (right; (first | omega | (simp; done) | (simp; omega)))) | (rintro _ (rfl | rfl) <;> (right; (first | omega | (simp; done) | (simp; omega)))))))) (by omega) (by omega)).mono ?_)
      rintro e w7 ⟨rfl, ⟨r7, hr7, hne7, ha7⟩, hm7⟩
      have hz7 := hm7.size
      go_wp2_with fail
      have l7 := ha7.lt
      have hc7 : IsCl w7 w5.heap.size a (.slice A0 k cap0) := Blk.keep hcb' hm7 (not_two (by omega) (by omega))
      have ho7 := owns_keep' ho HR.out hm7 (not_two (by omega) (by omega))
      have v7 : Rec9 (cs ++ [.int .i64 1, .int .i64 x, .int .i64 0, .int .i64 0, .int .i64 0, .int .i64 0, .int .i64 0, .int .i64 0, .int .i64 0]) (2 * k) 1 x 0 0 0 0 0 0 0 := Rec9.new 1 x 0 0 0 0 0 0 0 (Own.len hF.arn)
      have f7 : First l k (cs ++ [.int .i64 1, .int .i64 x, .int .i64 0, .int .i64 0, .int .i64 0, .int .i64 0, .int .i64 0, .int .i64 0, .int .i64 0]) := HRc.out.more
      generalize hcs7 : (cs ++ [.int .i64 1, .int .i64 x, .int .i64 0, .int .i64 0, .int .i64 0, .int .i64 0, .int .i64 0, .int .i64 0, .int .i64 0] : List Value) = cs7 at v7 ha7 f7
      clear hcs7
      (with_reducible refine (bld_ok (-1) (2 * (k : Int)) (2 * (k : Int)) x x w5.heap.size a r7 (2 * k + 1) (.slice A0 k cap0) most cs7 _ (by exact Blk.keep0 hc7 (by repeat (first | with_reducible exact Mod.refl _ _ | with_reducible assumption | with_reducible refine Mod.alloc ?_ _ | with_reducible refine Mod.drew ?_ | with_reducible refine Mod.drewN ?_ _ | with_reducible refine Mod.setCell ?_ (by first | exact .inl rfl | (left; (try unfold from_); show _ ≤ _; first | omega | (simp; done) | (simp; omega)) | (right; first | omega | (simp; done) | (simp; omega))) _ | with_reducible refine Mod.call0 ?_ (by with_reducible assumption) | with_reducible refine Mod.call ?_ (by with_reducible assumption) (by first | (rintro _ rfl; first | exact .inl rfl | (right; (first | omega | (simp; done) | (simp; omega)))) | (rintro _ (rfl | rfl) <;> (right; (first | omega | (simp; done) | (simp; omega)))))))) (by exact Own.keep0 ha7 (by repeat (first | with_reducible exact Mod.refl _ _ | with_reducible assumption | with_reducible refine Mod.alloc ?_ _ | with_reducible refine Mod.drew ?_ | with_reducible refine Mod.drewN ?_ _ | with_reducible refine Mod.setCell ?_ (by first | exact .inl rfl | (left; (try unfold from_); show _ ≤ _; first | omega | (simp; done) | (simp; omega)) | (right; first | omega | (simp; done) | (simp; omega))) _ | with_reducible refine Mod.call0 ?_ (by with_reducible assumption) | with_reducible refine Mod.call ?_ (by with_reducible assumption) (by first | (rintro _ rfl; first | exact .inl rfl | (right; (first | omega | (simp; done) | (simp; omega)))) | (rintro _ (rfl | rfl) <;> (right; (first | omega | (simp; done) | (simp; omega)))))))) (2 * k) (2 * k) (by omega) (by omega) (by omega) (by omega) v7 v7 (by omega) (by omega) (by omega)).mono ?_)
      rintro e w8 ⟨rfl, ⟨r8, hr8, hne8, ha8⟩, hm8⟩
      have hz8 := hm8.size
      have l8 := ha8.lt
      have hc8 : IsCl w8 w5.heap.size a (.slice A0 k cap0) := Blk.keep hc7 hm8 (not_two (by omega) (by omega))
      have ho8 := owns_keep' ho7 HR.out hm8 (not_two (by omega) (by omega))
      have l8' : Rec9 (cs7 ++ [.int .i64 2, .int .i64 0, .int .i64 (-1), .int .i64 (2 * (k : Int)), .int .i64 (2 * (k : Int)), .int .i64 0, .int .i64 0, .int .i64 0, .int .i64 0]) (2 * k + 1) 2 0 (-1) (2 * (k : Int)) (2 * (k : Int)) 0 0 0 0 := Rec9.new 2 0 (-1) (2 * (k : Int)) (2 * (k : Int)) 0 0 0 0 (Own.len ha7)
      have f8 := hide ((f7.more (cs' := [.int .i64 2, .int .i64 0, .int .i64 (-1), .int .i64 (2 * (k : Int)), .int .i64 (2 * (k : Int)), .int .i64 0, .int .i64 0, .int .i64 0, .int .i64 0])).snoc HK.out v7.more l8')
      clear v7 f7 l8'
      go_wp2_with fail
      clear cx fx hcb hcb' ho ho7 hc7 ha7
      have hF' := hide hF
      clear hF
      have c_hc8 := hc8.cell; have f_hc8 := hc8.frozen; have l_hc8 := hc8.lt
      go_region_law (first | (go_simp; (go_at_call 27; (with_reducible refine (of_calls _ _).mono ?_); rintro e w' ⟨rfl, rfl⟩)) | ((refine step_append_lies _ (by rfl) _ _ _ (by rfl) 0 71 i0 (.pointer none) 1 8 Try.underlying66 hi hz0 hz1 hz2 (by rfl) (by omega) _ k ws (by rfl) (owns_keep0 ho8 (by repeat (first | with_reducible exact Mod.refl _ _ | with_reducible assumption | with_reducible refine Mod.alloc ?_ _ | with_reducible refine Mod.drew ?_ | with_reducible refine Mod.drewN ?_ _ | with_reducible refine Mod.setCell ?_ (by first | exact .inl rfl | (left; (try unfold from_); show _ ≤ _; first | omega | (simp; done) | (simp; omega)) | (right; first | omega | (simp; done) | (simp; omega))) _ | with_reducible refine Mod.call0 ?_ (by with_reducible assumption) | with_reducible refine Mod.call ?_ (by with_reducible assumption) (by first | (rintro _ rfl; first | exact .inl rfl | (right; (first | omega | (simp; done) | (simp; omega)))) | (rintro _ (rfl | rfl) <;> (right; (first | omega | (simp; done) | (simp; omega)))))))) ⟨w8.heap.size + 1, 0, none⟩ 1 1 [.pointer (some ⟨w8.heap.size, 0, none⟩)] (by rfl) (by rfl) (World.news_of_block (B := w8.heap.size + 1) (cs := #[.pointer (some ⟨w8.heap.size, 0, none⟩)]) (t := 71) (fr := (0, 0)) (by show Blk _ _ _ _; exact (by repeat (first | with_reducible assumption | with_reducible apply Blk.new | with_reducible exact Blk.newAt (by first | rfl | (simp; done) | (simp; omega)) | with_reducible apply Blk.alloc | with_reducible apply Blk.drew | with_reducible apply Blk.drewN | with_reducible apply Blk.keep0 (hm := by with_reducible assumption) | with_reducible apply Blk.keep (hm := by with_reducible assumption) (hg := by first | omega | exact not_two (by omega) (by omega)) | with_reducible apply Blk.far (hp := by first | omega | (simp; done) | (simp; omega)) | with_reducible apply Blk.set1 | rfl)))) (by simp [Value.oneCell']) (by omega) (by unfold maxLen; omega) (by omega) (Nat.zero_le _) (w8.heap.size + 2) (by simp) ?_); intro q cap1 w1 hown hgrow hat hlt; obtain ⟨z1, z2, z3, z4, z5⟩ := put_mid (mk := fun s => #[.pointer (some ⟨a, 0, none⟩), s]) (r := rc) hc8 (by repeat (first | with_reducible exact Mod.refl _ _ | with_reducible assumption | with_reducible refine Mod.alloc ?_ _ | with_reducible refine Mod.drew ?_ | with_reducible refine Mod.drewN ?_ _ | with_reducible refine Mod.setCell ?_ (by first | exact .inl rfl | (left; (try unfold from_); show _ ≤ _; first | omega | (simp; done) | (simp; omega)) | (right; first | omega | (simp; done) | (simp; omega))) _ | with_reducible refine Mod.call0 ?_ (by with_reducible assumption) | with_reducible refine Mod.call ?_ (by with_reducible assumption) (by first | (rintro _ rfl; first | exact .inl rfl | (right; (first | omega | (simp; done) | (simp; omega)))) | (rintro _ (rfl | rfl) <;> (right; (first | omega | (simp; done) | (simp; omega))))))) HR.out hgrow hat (by omega); clear hgrow hat; have cz := z3.cell; have fz := z3.frozen; have lz := z3.lt))
      all_goals
        go_wp2
        have hw1 : IsWord w1 w8.heap.size (2 * (k : Int) + 1) 0 := Blk.keep (S := (· = rc)) (by show Blk _ _ _ _; exact (by repeat (first | with_reducible assumption | with_reducible apply Blk.new | with_reducible exact Blk.newAt (by first | rfl | (simp; done) | (simp; omega)) | with_reducible apply Blk.alloc | with_reducible apply Blk.drew | with_reducible apply Blk.drewN | with_reducible apply Blk.keep0 (hm := by with_reducible assumption) | with_reducible apply Blk.keep (hm := by with_reducible assumption) (hg := by first | omega | exact not_two (by omega) (by omega)) | with_reducible apply Blk.far (hp := by first | omega | (simp; done) | (simp; omega)) | with_reducible apply Blk.set1 | rfl))) z5 (by omega)
        have hw2 : IsWord (w1.setCell ⟨w5.heap.size, 1, none⟩ (.slice (some ⟨q, 0, none⟩) (k + 1) cap1)) w8.heap.size ((2 * k + 1 : Nat) : Int) 0 := by
          rw [show ((2 * k + 1 : Nat) : Int) = 2 * (k : Int) + 1 by omega]
          exact Blk.far hw1 (by show w8.heap.size ≠ w5.heap.size; omega) _
        obtain ⟨⟨rq, e1, e2, e3⟩, hmz⟩ := put_end (mk := fun s => #[.pointer (some ⟨a, 0, none⟩), s]) z1 z2 z4 (w2 := w1.setCell ⟨w5.heap.size, 1, none⟩ (.slice (some ⟨q, 0, none⟩) (k + 1) cap1)) (by repeat (first | with_reducible exact Mod.refl _ _ | with_reducible assumption | with_reducible refine Mod.alloc ?_ _ | with_reducible refine Mod.drew ?_ | with_reducible refine Mod.drewN ?_ _ | with_reducible refine Mod.setCell ?_ (by first | exact .inl rfl | (left; (try unfold from_); show _ ≤ _; first | omega | (simp; done) | (simp; omega)) | (right; first | omega | (simp; done) | (simp; omega))) _ | with_reducible refine Mod.call0 ?_ (by with_reducible assumption) | with_reducible refine Mod.call ?_ (by with_reducible assumption) (by first | (rintro _ rfl; first | exact .inl rfl | (right; (first | omega | (simp; done) | (simp; omega)))) | (rintro _ (rfl | rfl) <;> (right; (first | omega | (simp; done) | (simp; omega))))))) (by repeat (first | with_reducible assumption | with_reducible apply Blk.new | with_reducible exact Blk.newAt (by first | rfl | (simp; done) | (simp; omega)) | with_reducible apply Blk.alloc | with_reducible apply Blk.drew | with_reducible apply Blk.drewN | with_reducible apply Blk.keep0 (hm := by with_reducible assumption) | with_reducible apply Blk.keep (hm := by with_reducible assumption) (hg := by first | omega | exact not_two (by omega) (by omega)) | with_reducible apply Blk.far (hp := by first | omega | (simp; done) | (simp; omega)) | with_reducible apply Blk.set1 | rfl)) hown
        have m8 : Mod (two a r) wr w8 := hm7.call hm8 (fun i hi => hi.elim (fun h => .inl (.inl h)) (fun h => hr7.elim (fun h' => .inl (.inr (h.trans h'))) (fun h' => .inr (h ▸ h'))))
        have m9 : Mod (fun b => b = a ∨ b = r ∨ b = w5.heap.size ∨ b = rc) wr (w1.setCell ⟨w5.heap.size, 1, none⟩ (.slice (some ⟨q, 0, none⟩) (k + 1) cap1)) := (m8.mono (fun i hi => hi.elim .inl (fun h => .inr (.inl h)))).call hmz (fun i hi => .inl (hi.elim (fun h => .inr (.inr (.inl h))) (fun h => .inr (.inr (.inr h)))))
        have hF9 := hF'.out.more (by omega) (Own.keep ha8 hmz (not_two (by omega) (by omega)) (not_two (by omega) (by omega))) (by omega) e3 (by omega) (by omega) e2 hw2 (by omega) (by omega) m9 hlw
        refine ⟨⟨k + 1, r8, rq, _, _, _, by go_num, by omega, hF9.congr (fun i hi => ?_), f8.out, by omega, hmr.call m9 ?_⟩, ?_⟩
        · by_cases hik : i = k
          · subst hik; rw [upd_same]
          · rw [upd_other _ _ hik]
        · rintro i (h | h | h | h) <;> omega
        · simp [intOf] <;> omega
    · obtain rfl : n = k := by omega
      go_wp2
      go_ret2
      exact ⟨w5.heap.size, r, rc, ws, cs, s, rfl, hF, hRc, hra, hmr⟩
end Go.Proofs.Ytanmibdnnjfpbaa
