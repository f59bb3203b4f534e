/- The document's records: a map of whole numbers; Put, Is. -/
import Derived.Test.YtanmibdnnjfpbaaCellsR
import Derived.Test.YtanmibdnnjfpbaaCells12
namespace Go.Proofs.Ytanmibdnnjfpbaa
open Go.RowKit

/-! ### a map of whole numbers -/
def intElem : Value → Option (DataW Nat × List MemPlace)
  | .int .i64 n => some (.lit (.int .i64 n), [])
  | _ => none
theorem intElem_inv {v : Value} {n : Int} {ps : List MemPlace} (h : intElem v = some (.lit (.int .i64 n), ps)) : v = .int .i64 n := by
  unfold intElem at h
  split at h
  · rename_i m
    simp at h
    rw [h.1]
  · cases h
/-- Block b is a map that tells st i of i (0 of a number that isn't there); it has n entries at most. -/
def IsZMap (w : World) (b n : Nat) (st : Int → Int) : Prop :=
  ∃ D : DataW Nat, w.ownsMap Try.prog 3 intElem b n D ∧ Maps.IsMap D ∧ ∀ i, D.atKey (.int .i64 i) (.lit (.int .i64 0)) = .lit (.int .i64 (st i))
section
variable {S : Nat → Prop} {w w' : World} {b n : Nat} {st : Int → Int}
theorem IsZMap.lt (h : IsZMap w b n st) : b < w.heap.size := h.elim fun _ h => h.1.lt
theorem IsZMap.keep (h : IsZMap w b n st) (hm : Mod S w w') (hS : ¬ S b) : IsZMap w' b n st := by
  have hlt := h.lt
  obtain ⟨D, ⟨es, clock, hb, rest⟩, h2⟩ := h
  exact ⟨D, ⟨es, clock, (hm.block b hlt hS).trans hb, rest⟩, h2⟩
theorem IsZMap.keep0 (h : IsZMap w b n st) (hm : Mod nowhere w w') : IsZMap w' b n st := h.keep hm id
theorem IsZMap.ne_blk {g : Nat} {t : TypeId} {cs : Array Value} (h : IsZMap w b n st) (hb : Blk w g t cs) : b ≠ g := by
  rintro rfl
  obtain ⟨D, ⟨es, clock, h1, -⟩, -⟩ := h
  unfold Blk at hb
  rw [hb] at h1
  injection h1 with h1
  cases h1
theorem IsZMap.made (w : World) : IsZMap (w.alloc (.map #[] 0)) w.heap.size 0 (fun _ => 0) :=
  ⟨.map [], World.ownsMap_made w _ _ _, Maps.isMap_empty, fun _ => rfl⟩
theorem zmap_keyed : Maps.Keyed Try.prog 3 := Maps.int_keyed Try.underlying3
theorem zmap_zero (w : World) : (zeroValue 3).run Try.prog w = .ok (.int .i64 0) w := by kernel_rfl
theorem IsZMap.look (h : IsZMap w b n st) (i : Int) (hi : I64 i) : (Instr.lookup 33 (.map (some b)) (.int .i64 i) false).run Try.prog w = .ok (.int .i64 (st i)) w := by
  obtain ⟨D, h1, _, h2⟩ := h
  obtain ⟨v, ps, hr, hv⟩ := h1.lookup zmap_keyed Try.underlying33 (zmap_zero w) (zd := .lit (.int .i64 0)) (zp := []) rfl (Maps.keyOf_int_mk Try.underlying3 (wf_of hi))
  rw [h2 i] at hv
  rw [hr, intElem_inv hv]
theorem IsZMap.put (h : IsZMap w b n st) (i x : Int) (hi : I64 i) (hn : n < maxLen) :
    ∃ w', (Instr.mapUpdate 33 (.map (some b)) (.int .i64 i) (.int .i64 x)).run Try.prog w = .ok () w' ∧ IsZMap w' b (n + 1) (updz st i x) ∧ Mod (· = b) w w' := by
  obtain ⟨D, h1, h3, h2⟩ := h
  obtain ⟨w', hr, ho, hg⟩ := h1.update zmap_keyed Try.underlying33 hn (val := .int .i64 x) (Maps.keyOf_int_mk Try.underlying3 (wf_of hi)) (d := .lit (.int .i64 x)) (ps := []) rfl
  refine ⟨w', hr, ⟨_, ho, h3.put _ _, fun k => ?_⟩, (Mod.of_grown hg).mono fun k hk => by simpa using hk⟩
  show (D.put (.int .i64 i) (.lit (.int .i64 x))).atKey (.int .i64 k) (.lit (.int .i64 0)) = .lit (.int .i64 (updz st i x k))
  by_cases hk : k = i
  · subst hk
    rw [updz_same, Maps.atKey_put_same h3 (by trivial)]
  · rw [updz_other _ _ hk, Maps.atKey_put_other (by simpa using hk), h2 k]
end

/-! ### Put, Is -/
abbrev RecL (w : World) (g r N : Nat) (n : Int) (za zm : Value) (cs : List Value) : Prop := Own w 37 (fun s => #[.int .i64 n, s, za, zm]) 45 9 g r N cs
abbrev PutRecL (w w' : World) (g r N : Nat) (n : Int) (za zm : Value) (cs : List Value) : Prop := PutOwn w w' 37 (fun s => #[.int .i64 n, s, za, zm]) 45 9 g r N cs
set_option maxHeartbeats 400000 in
theorem rput_full (x0 x1 x2 x3 x4 x5 x6 x7 x8 : Int) (g r N : Nat) (n : Int) (za zm : Value) (cs : List Value) (w : World) (h : RecL w g r N n za zm cs) (hn : n ≤ (N : Int)) :
    Calls Try.prog 9 #[.pointer (some ⟨g, 0, none⟩), .agg #[.int .i64 x0, .int .i64 x1, .int .i64 x2, .int .i64 x3, .int .i64 x4, .int .i64 x5, .int .i64 x6, .int .i64 x7, .int .i64 x8]] w fun e w' => e = .returned (.int .i64 (-1)) ∧ Mod nowhere w w' := by
  obtain ⟨A, cap, hb, -, -⟩ := h.open_
  have c0 := (hb.cell 0).trans rfl
  have c1 := (hb.cell 1).trans rfl
  have l_b := hb.lt
  go_enter Try.func9, Try.ntmps9
  go_wp2
  go_region
  all_goals go_wp2
  all_goals go_ret
  all_goals exact ⟨rfl, (by repeat (first | with_reducible exact Mod.refl _ _ | with_reducible assumption | with_reducible refine Mod.alloc ?_ _ | with_reducible refine Mod.drew ?_ | with_reducible refine Mod.drewN ?_ _ | with_reducible refine Mod.setCell ?_ (by first | exact .inl rfl | (left; (try unfold from_); show _ ≤ _; first | omega | (simp; done) | (simp; omega)) | (right; first | omega | (simp; done) | (simp; omega))) _ | with_reducible refine Mod.call0 ?_ (by with_reducible assumption) | with_reducible refine Mod.call ?_ (by with_reducible assumption) (by first | (rintro _ rfl; first | exact .inl rfl | (right; (first | omega | (simp; done) | (simp; omega)))) | (rintro _ (rfl | rfl) <;> (right; (first | omega | (simp; done) | (simp; omega)))))))⟩
set_option maxRecDepth 100000 in
set_option maxHeartbeats 4000000 in
theorem rput_ok (x0 x1 x2 x3 x4 x5 x6 x7 x8 : Int) (g r N : Nat) (n : Int) (za zm : Value) (cs : List Value) (w : World) (h : RecL w g r N n za zm cs) (hn : (N : Int) < n) (hm : n ≤ 4096) :
    Calls Try.prog 9 #[.pointer (some ⟨g, 0, none⟩), .agg #[.int .i64 x0, .int .i64 x1, .int .i64 x2, .int .i64 x3, .int .i64 x4, .int .i64 x5, .int .i64 x6, .int .i64 x7, .int .i64 x8]] w
      fun e w' => e = .returned (.int .i64 N) ∧ PutRecL w w' g r (N + 1) n za zm (cs ++ [.int .i64 x0, .int .i64 x1, .int .i64 x2, .int .i64 x3, .int .i64 x4, .int .i64 x5, .int .i64 x6, .int .i64 x7, .int .i64 x8]) ∧ Mod (two g r) w w' := by
  obtain ⟨A, cap, hb, ho, hr⟩ := h.open_
  have c0 := (hb.cell 0).trans rfl
  have c1 := (hb.cell 1).trans rfl
  have f_b := hb.frozen
  have l_b := hb.lt
  obtain ⟨i0, hi, hz0, hz1, hz2⟩ := info_parts ainfo_rec
  have HR := hide hr
  have l_r := h.lt.2
  clear hr
  go_enter Try.func9, Try.ntmps9
  go_wp2
  go_region
  all_goals
   go_wp2
   go_region_law ((refine step_append_lies _ (by rfl) _ _ _ (by rfl) 0 45 i0 (.agg #[.int .i64 0, .int .i64 0, .int .i64 0, .int .i64 0, .int .i64 0, .int .i64 0, .int .i64 0, .int .i64 0, .int .i64 0]) 9 72 Try.underlying34 hi hz0 hz1 hz2 (by rfl) (by omega) _ N cs (by rfl) (owns_keep0 ho (by repeat (first | with_reducible exact Mod.refl _ _ | with_reducible assumption | with_reducible refine Mod.alloc ?_ _ | with_reducible refine Mod.drew ?_ | with_reducible refine Mod.drewN ?_ _ | with_reducible refine Mod.setCell ?_ (by first | exact .inl rfl | (left; (try unfold from_); show _ ≤ _; first | omega | (simp; done) | (simp; omega)) | (right; first | omega | (simp; done) | (simp; omega))) _ | with_reducible refine Mod.call0 ?_ (by with_reducible assumption) | with_reducible refine Mod.call ?_ (by with_reducible assumption) (by first | (rintro _ rfl; first | exact .inl rfl | (right; (first | omega | (simp; done) | (simp; omega)))) | (rintro _ (rfl | rfl) <;> (right; (first | omega | (simp; done) | (simp; omega)))))))) ⟨w.heap.size + 1, 0, none⟩ 1 1 [.int .i64 x0, .int .i64 x1, .int .i64 x2, .int .i64 x3, .int .i64 x4, .int .i64 x5, .int .i64 x6, .int .i64 x7, .int .i64 x8] (by rfl) (by rfl) (World.news_of_block (B := w.heap.size + 1) (cs := #[.int .i64 x0, .int .i64 x1, .int .i64 x2, .int .i64 x3, .int .i64 x4, .int .i64 x5, .int .i64 x6, .int .i64 x7, .int .i64 x8]) (t := 45) (fr := (0, 0)) (by show Blk _ _ _ _; exact (by repeat (first | with_reducible assumption | with_reducible apply Blk.new | with_reducible exact Blk.newAt (by first | rfl | (simp; done) | (simp; omega)) | with_reducible apply Blk.alloc | with_reducible apply Blk.drew | with_reducible apply Blk.drewN | with_reducible apply Blk.keep0 (hm := by with_reducible assumption) | with_reducible apply Blk.keep (hm := by with_reducible assumption) (hg := by first | omega | exact not_two (by omega) (by omega)) | with_reducible apply Blk.far (hp := by first | omega | (simp; done) | (simp; omega)) | with_reducible apply Blk.set1 | rfl)))) (by simp [Value.oneCell']) (by omega) (by unfold maxLen; omega) (by omega) (Nat.zero_le _) (w.heap.size + 2) (by simp) ?_; intro q cap1 w1 hown hgrow hat hlt; obtain ⟨z1, z2, z3, z4, z5⟩ := put_mid (mk := fun s => #[.int .i64 n, s, za, zm]) hb (by repeat (first | with_reducible exact Mod.refl _ _ | with_reducible assumption | with_reducible refine Mod.alloc ?_ _ | with_reducible refine Mod.drew ?_ | with_reducible refine Mod.drewN ?_ _ | with_reducible refine Mod.setCell ?_ (by first | exact .inl rfl | (left; (try unfold from_); show _ ≤ _; first | omega | (simp; done) | (simp; omega)) | (right; first | omega | (simp; done) | (simp; omega))) _ | with_reducible refine Mod.call0 ?_ (by with_reducible assumption) | with_reducible refine Mod.call ?_ (by with_reducible assumption) (by first | (rintro _ rfl; first | exact .inl rfl | (right; (first | omega | (simp; done) | (simp; omega)))) | (rintro _ (rfl | rfl) <;> (right; (first | omega | (simp; done) | (simp; omega))))))) HR.out hgrow hat (by omega); clear hgrow hat; have zb : Blk w1 w.heap.size 45 #[.int .i64 x0, .int .i64 x1, .int .i64 x2, .int .i64 x3, .int .i64 x4, .int .i64 x5, .int .i64 x6, .int .i64 x7, .int .i64 x8] := Blk.keep (S := (· = r)) (by repeat (first | with_reducible assumption | with_reducible apply Blk.new | with_reducible exact Blk.newAt (by first | rfl | (simp; done) | (simp; omega)) | with_reducible apply Blk.alloc | with_reducible apply Blk.drew | with_reducible apply Blk.drewN | with_reducible apply Blk.keep0 (hm := by with_reducible assumption) | with_reducible apply Blk.keep (hm := by with_reducible assumption) (hg := by first | omega | exact not_two (by omega) (by omega)) | with_reducible apply Blk.far (hp := by first | omega | (simp; done) | (simp; omega)) | with_reducible apply Blk.set1 | rfl)) z5 (by omega); have cb := zb.cell; clear z5 zb; have cz := z3.cell; have fz := z3.frozen; have lz := z3.lt))
   all_goals
    have cN := z3
    go_wp2
    go_ret
    refine ⟨rfl, put_end (mk := fun s => #[.int .i64 n, s, za, zm]) z1 z2 z4 ?_ ?_ hown⟩
    · exact (by repeat (first | with_reducible exact Mod.refl _ _ | with_reducible assumption | with_reducible refine Mod.alloc ?_ _ | with_reducible refine Mod.drew ?_ | with_reducible refine Mod.drewN ?_ _ | with_reducible refine Mod.setCell ?_ (by first | exact .inl rfl | (left; (try unfold from_); show _ ≤ _; first | omega | (simp; done) | (simp; omega)) | (right; first | omega | (simp; done) | (simp; omega))) _ | with_reducible refine Mod.call0 ?_ (by with_reducible assumption) | with_reducible refine Mod.call ?_ (by with_reducible assumption) (by first | (rintro _ rfl; first | exact .inl rfl | (right; (first | omega | (simp; done) | (simp; omega)))) | (rintro _ (rfl | rfl) <;> (right; (first | omega | (simp; done) | (simp; omega)))))))
    · exact (by repeat (first | with_reducible assumption | with_reducible apply Blk.new | with_reducible exact Blk.newAt (by first | rfl | (simp; done) | (simp; omega)) | with_reducible apply Blk.alloc | with_reducible apply Blk.drew | with_reducible apply Blk.drewN | with_reducible apply Blk.keep0 (hm := by with_reducible assumption) | with_reducible apply Blk.keep (hm := by with_reducible assumption) (hg := by first | omega | exact not_two (by omega) (by omega)) | with_reducible apply Blk.far (hp := by first | omega | (simp; done) | (simp; omega)) | with_reducible apply Blk.set1 | rfl))
/-- The kind of record i. -/
def kindOf (cs : List Value) (i : Nat) : Int := numOf (cs.getD (i * 9) (.int .i64 0))
/-- Every record begins with a number. -/
def Kinds (cs : List Value) (N : Nat) : Prop := ∀ i, i < N → cs[i * 9]? = some (.int .i64 (kindOf cs i))
set_option maxRecDepth 100000 in
set_option maxHeartbeats 4000000 in
theorem ris_calls (at_ k : Int) (g r N : Nat) (n : Int) (za zm : Value) (cs : List Value) (w : World) (h : RecL w g r N n za zm cs) (hK : Kinds cs N) (hN : N ≤ 4096) (hi : I64 at_) :
    Calls Try.prog 11 #[.pointer (some ⟨g, 0, none⟩), .int .i64 at_, .int .i64 k] w fun e w' => e = .returned (.bool (decide (0 ≤ at_ ∧ at_ < (N : Int) ∧ kindOf cs at_.toNat = k))) ∧ Mod nowhere w w' := by
  by_cases h0 : 0 ≤ at_
  · by_cases h1 : at_ < (N : Int)
    · obtain ⟨i, rfl⟩ : ∃ i : Nat, at_ = i := ⟨at_.toNat, by omega⟩
      obtain ⟨cap, hb, hc⟩ := h.cells (by omega)
      have cx := (hc (i * 9) (by omega)).trans (hK i (by omega))
      have hres : decide (0 ≤ (i : Int) ∧ (i : Int) < (N : Int) ∧ kindOf cs (i : Int).toNat = k) = (kindOf cs i == k) := by
        rw [show (i : Int).toNat = i from rfl]
        by_cases e : kindOf cs i = k
        · rw [decide_eq_true ⟨h0, h1, e⟩, beq_iff_eq.2 e]
        · rw [decide_eq_false (fun x => e x.2.2), beq_eq_false_iff_ne.2 e]
      rw [hres]
      generalize kindOf cs i = kk at cx ⊢
      clear hc hres hK h
      have c_hb := hb.cell; have f_hb := hb.frozen; have l_hb := hb.lt
      go_enter Try.func11, Try.ntmps11
      go_wp2
      go_ret
      exact ⟨rfl, (by repeat (first | with_reducible exact Mod.refl _ _ | with_reducible assumption | with_reducible refine Mod.alloc ?_ _ | with_reducible refine Mod.drew ?_ | with_reducible refine Mod.drewN ?_ _ | with_reducible refine Mod.setCell ?_ (by first | exact .inl rfl | (left; (try unfold from_); show _ ≤ _; first | omega | (simp; done) | (simp; omega)) | (right; first | omega | (simp; done) | (simp; omega))) _ | with_reducible refine Mod.call0 ?_ (by with_reducible assumption) | with_reducible refine Mod.call ?_ (by with_reducible assumption) (by first | (rintro _ rfl; first | exact .inl rfl | (right; (first | omega | (simp; done) | (simp; omega)))) | (rintro _ (rfl | rfl) <;> (right; (first | omega | (simp; done) | (simp; omega)))))))⟩
    · rw [decide_eq_false (fun x => h1 x.2.1)]
      obtain ⟨A, cap, hb, -, -⟩ := h.open_
      clear h hK
      have c_hb := hb.cell; have f_hb := hb.frozen; have l_hb := hb.lt
      go_enter Try.func11, Try.ntmps11
      go_wp2
      go_ret
      exact ⟨rfl, (by repeat (first | with_reducible exact Mod.refl _ _ | with_reducible assumption | with_reducible refine Mod.alloc ?_ _ | with_reducible refine Mod.drew ?_ | with_reducible refine Mod.drewN ?_ _ | with_reducible refine Mod.setCell ?_ (by first | exact .inl rfl | (left; (try unfold from_); show _ ≤ _; first | omega | (simp; done) | (simp; omega)) | (right; first | omega | (simp; done) | (simp; omega))) _ | with_reducible refine Mod.call0 ?_ (by with_reducible assumption) | with_reducible refine Mod.call ?_ (by with_reducible assumption) (by first | (rintro _ rfl; first | exact .inl rfl | (right; (first | omega | (simp; done) | (simp; omega)))) | (rintro _ (rfl | rfl) <;> (right; (first | omega | (simp; done) | (simp; omega)))))))⟩
  · rw [decide_eq_false (fun x => h0 x.1)]
    obtain ⟨A, cap, hb, -, -⟩ := h.open_
    clear h hK
    have c_hb := hb.cell; have f_hb := hb.frozen; have l_hb := hb.lt
    go_enter Try.func11, Try.ntmps11
    go_wp2
    go_ret
    exact ⟨rfl, (by repeat (first | with_reducible exact Mod.refl _ _ | with_reducible assumption | with_reducible refine Mod.alloc ?_ _ | with_reducible refine Mod.drew ?_ | with_reducible refine Mod.drewN ?_ _ | with_reducible refine Mod.setCell ?_ (by first | exact .inl rfl | (left; (try unfold from_); show _ ≤ _; first | omega | (simp; done) | (simp; omega)) | (right; first | omega | (simp; done) | (simp; omega))) _ | with_reducible refine Mod.call0 ?_ (by with_reducible assumption) | with_reducible refine Mod.call ?_ (by with_reducible assumption) (by first | (rintro _ rfl; first | exact .inl rfl | (right; (first | omega | (simp; done) | (simp; omega)))) | (rintro _ (rfl | rfl) <;> (right; (first | omega | (simp; done) | (simp; omega)))))))⟩
end Go.Proofs.Ytanmibdnnjfpbaa
