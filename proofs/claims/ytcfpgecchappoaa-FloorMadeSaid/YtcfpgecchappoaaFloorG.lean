/- The gate of a floor: See, Swap, Beat, Pulse. -/
import Derived.Test.YtcfpgecchappoaaFloorT
import Derived.StillTailTactics
namespace Go.Proofs.Ytcfpgecchappoaa
open Go.RowKit

abbrev sightV (b : Bool) (s t p : Int) : Value := .agg #[.bool b, .int .i64 s, .int .i64 t, .int .i64 p]
set_option maxHeartbeats 400000 in
theorem see_none (g gw gp n : Nat) (ps : List Int) (w : World) (h : IsGate w g gw gp n 0 ps) :
    Calls Try.prog 31 #[.pointer (some ⟨g, 0, none⟩)] w fun e w' => e = .returned (sightV false 0 0 0) ∧ IsGate w' g gw gp n 0 ps ∧ Mod (· = gw) w w' := by
  have hl := h.lt
  obtain ⟨hb, ⟨acc, hw⟩, hp, hn, n1, n2, n3⟩ := h
  have hn' := hide hn
  clear hn
  have c_hb := hb.cell; have f_hb := hb.frozen; have l_hb := hb.lt
  go_enter Try.func31, Try.ntmps31
  go_wp2_with fail
  (with_reducible refine (load_calls gw 0 acc _ (by exact (by repeat (first | with_reducible assumption | with_reducible apply Blk.new | with_reducible exact Blk.newAt (by first | rfl | (simp; done) | (simp; omega)) | with_reducible apply Blk.alloc | with_reducible apply Blk.drew | with_reducible apply Blk.drewN | with_reducible apply Blk.keep0 (hm := by with_reducible assumption) | with_reducible apply Blk.keep (hm := by with_reducible assumption) (hg := by first | omega | exact not_two (by omega) (by omega)) | with_reducible apply Blk.far (hp := by first | omega | (simp; done) | (simp; omega)) | with_reducible apply Blk.set1 | rfl)))).mono ?_)
  rintro e w1 ⟨rfl, hkw1, hbw1⟩
  have hzw1 := hbw1.size
  (try simp at hzw1)
  have ckw1 := hkw1.cell; have fkw1 := hkw1.frozen; have lkw1 := hkw1.lt
  (try (have ltw10 : g < w1.heap.size := (by omega); have lcw10 := fun o => hbw1.cell (b := g) o (by first | omega | (simp; done) | (simp; omega)) (by first | omega | (simp; omega)); have lfw10 := fun o => hbw1.frozen (b := g) o (by first | omega | (simp; done) | (simp; omega)) (by first | omega | (simp; omega))))
  (try (have ltw11 : gp < w1.heap.size := (by omega); have lcw11 := fun o => hbw1.cell (b := gp) o (by first | omega | (simp; done) | (simp; omega)) (by first | omega | (simp; omega)); have lfw11 := fun o => hbw1.frozen (b := gp) o (by first | omega | (simp; done) | (simp; omega)) (by first | omega | (simp; omega))))
  (try (have ltw12 : w.heap.size < w1.heap.size := (by omega); have lcw12 := fun o => hbw1.cell (b := w.heap.size) o (by first | omega | (simp; done) | (simp; omega)) (by first | omega | (simp; omega)); have lfw12 := fun o => hbw1.frozen (b := w.heap.size) o (by first | omega | (simp; done) | (simp; omega)) (by first | omega | (simp; omega))))
  skip
  go_wp2
  exact bodyPost_ret (v := sightV false 0 0 0) (by simp [results, Try.results31, go_sem, *]) rfl ⟨rfl, ⟨(by repeat (first | with_reducible assumption | with_reducible apply Blk.new | with_reducible exact Blk.newAt (by first | rfl | (simp; done) | (simp; omega)) | with_reducible apply Blk.alloc | with_reducible apply Blk.drew | with_reducible apply Blk.drewN | with_reducible apply Blk.keep0 (hm := by with_reducible assumption) | with_reducible apply Blk.keep (hm := by with_reducible assumption) (hg := by first | omega | exact not_two (by omega) (by omega)) | with_reducible apply Blk.far (hp := by first | omega | (simp; done) | (simp; omega)) | with_reducible apply Blk.set1 | rfl)), ⟨wrap64 (acc + 1), (by repeat (first | with_reducible assumption | with_reducible apply Blk.new | with_reducible exact Blk.newAt (by first | rfl | (simp; done) | (simp; omega)) | with_reducible apply Blk.alloc | with_reducible apply Blk.drew | with_reducible apply Blk.drewN | with_reducible apply Blk.keep0 (hm := by with_reducible assumption) | with_reducible apply Blk.keep (hm := by with_reducible assumption) (hg := by first | omega | exact not_two (by omega) (by omega)) | with_reducible apply Blk.far (hp := by first | omega | (simp; done) | (simp; omega)) | with_reducible apply Blk.set1 | rfl))⟩, (by repeat (first | with_reducible assumption | with_reducible apply Blk.new | with_reducible exact Blk.newAt (by first | rfl | (simp; done) | (simp; omega)) | with_reducible apply Blk.alloc | with_reducible apply Blk.drew | with_reducible apply Blk.drewN | with_reducible apply Blk.keep0 (hm := by with_reducible assumption) | with_reducible apply Blk.keep (hm := by with_reducible assumption) (hg := by first | omega | exact not_two (by omega) (by omega)) | with_reducible apply Blk.far (hp := by first | omega | (simp; done) | (simp; omega)) | with_reducible apply Blk.set1 | rfl)), hn'.out, n1, n2, n3⟩, (by repeat (first | with_reducible exact Mod.refl _ _ | with_reducible assumption | with_reducible refine Mod.alloc ?_ _ | with_reducible refine Mod.drew ?_ | with_reducible refine Mod.drewN ?_ _ | with_reducible refine Mod.setCell ?_ (by first | exact .inl rfl | (left; (try unfold from_); show _ ≤ _; first | omega | (simp; done) | (simp; omega)) | (right; first | omega | (simp; done) | (simp; omega))) _ | with_reducible refine Mod.call0 ?_ (by with_reducible assumption) | with_reducible refine Mod.call ?_ (by with_reducible assumption) (by first | (rintro _ rfl; first | exact .inl rfl | (right; (first | omega | (simp; done) | (simp; omega)))) | (rintro _ (rfl | rfl) <;> (right; (first | omega | (simp; done) | (simp; omega)))))))⟩
theorem swap_yes_ (g : Nat) (n acc new : Int) (w : World) (h : IsWord w g n acc) :
    Calls Try.prog 59 #[.pointer (some ⟨g, 0, none⟩), .int .i64 n, .int .i64 new] w
      fun e w' => e = .returned (.bool true) ∧ IsWord w' g new (wrap64 (acc + 1)) ∧ Mod (· = g) w w' := by
  have := swap_calls g n acc n new w h
  rwa [if_pos rfl, show (n == n) = true from beq_iff_eq.2 rfl] at this
theorem wpStill_skip_ {P : Program} {ops : Array Oper} {w : World} {Q : Act → Prop} {a : Act} {o : Oper} {rest : List Oper} (hw : Region.wanted o (yielded ops a.tmps) = false)
    (h : ∀ K : Act → Prop, (∀ a, wpStill P ops w Q rest a → K a) → K (a.put o.dst undef)) : wpStill P ops w Q (o :: rest) a :=
  wpStill_step fun K hK => by rw [if_neg (by rw [hw]; exact Bool.false_ne_true)]; exact h K hK
theorem same_sym {P : Program} {f : FuncId} {args : Array Value} {w : World} {v : Value} (h : Calls P f args w fun e w' => e = .returned v ∧ w = w') : Calls P f args w fun e w' => e = .returned v ∧ w' = w :=
  h.mono fun _ _ ⟨h1, h2⟩ => ⟨h1, h2.symm⟩
set_option maxHeartbeats 1000000 in
theorem gswap_none_yes (xs xt xp s t : Int) (g gw gp n : Nat) (c : Int) (ps : List Int) (w : World) (h : IsGate w g gw gp n c ps) (h0 : 0 ≤ t) (h1 : t < n) (hn6 : n ≤ 6) (hs : 0 ≤ s) (hs1 : s ≤ 1099511627776) (hc : c = 0) :
    Calls Try.prog 41 #[.pointer (some ⟨g, 0, none⟩), sightV false xs xt xp, .int .i64 s, .int .i64 t] w fun e w' => e = .returned (.bool true) ∧ IsGate w' g gw gp n (s * 8 + t + 1) ps ∧ Mod (· = gw) w w' := by
  have hl := h.lt
  obtain ⟨hb, ⟨acc, hw⟩, hp, hn, n1, n2, n3⟩ := h
  have hn' := hide hn
  clear hn
  have q0 : decide (0 ≤ s) = true := by simp; omega
  subst hc
  go_enter Try.func41, Try.ntmps41
  go_wp2
  have hx : Blk (w.alloc (.cells #[.bool false, .int .i64 xs, .int .i64 xt, .int .i64 xp] 64)) w.heap.size 64 #[.bool false, .int .i64 xs, .int .i64 xt, .int .i64 xp] := (by repeat (first | with_reducible assumption | with_reducible apply Blk.new | with_reducible exact Blk.newAt (by first | rfl | (simp; done) | (simp; omega)) | with_reducible apply Blk.alloc | with_reducible apply Blk.drew | with_reducible apply Blk.drewN | with_reducible apply Blk.keep0 (hm := by with_reducible assumption) | with_reducible apply Blk.keep (hm := by with_reducible assumption) (hg := by first | omega | exact not_two (by omega) (by omega)) | with_reducible apply Blk.far (hp := by first | omega | (simp; done) | (simp; omega)) | with_reducible apply Blk.set1 | rfl))
  have hm0 : Mod nowhere w (w.alloc (.cells #[.bool false, .int .i64 xs, .int .i64 xt, .int .i64 xp] 64)) := (by repeat (first | with_reducible exact Mod.refl _ _ | with_reducible assumption | with_reducible refine Mod.alloc ?_ _ | with_reducible refine Mod.drew ?_ | with_reducible refine Mod.drewN ?_ _ | with_reducible refine Mod.setCell ?_ (by first | exact .inl rfl | (left; (try unfold from_); show _ ≤ _; first | omega | (simp; done) | (simp; omega)) | (right; first | omega | (simp; done) | (simp; omega))) _ | with_reducible refine Mod.call0 ?_ (by with_reducible assumption) | with_reducible refine Mod.call ?_ (by with_reducible assumption) (by first | (rintro _ rfl; first | exact .inl rfl | (right; (first | omega | (simp; done) | (simp; omega)))) | (rintro _ (rfl | rfl) <;> (right; (first | omega | (simp; done) | (simp; omega)))))))
  have hb2 := hb.keep0 hm0
  have hw2 := Blk.keep0 hw hm0
  have hp2 := hp.keep0 hm0
  generalize (w.alloc (.cells #[.bool false, .int .i64 xs, .int .i64 xt, .int .i64 xp] 64)) = w2 at *
  have c_hb2 := hb2.cell; have f_hb2 := hb2.frozen; have l_hb2 := hb2.lt; have c_hx := hx.cell; have f_hx := hx.frozen; have l_hx := hx.lt
  refine wp_region_still_tail 38 (by kernel_rfl) (by kernel_rfl) ?_
  simp only [List.take_succ_cons, List.take_zero, List.drop_succ_cons, List.drop_zero]
  change wpStill _ _ w2.drew _ _ _
  iterate 2 (with_reducible refine wpStill_step (fun K hK => ?_); go_simp; with_reducible refine hK _ ?_; clear hK K)
  with_reducible refine wpStill_step (fun K hK => ?_)
  go_simp
  with_reducible refine ⟨.bool true, ?_, hK _ ?_⟩
  · exact same_sym (is_yes t g (some ⟨gp, 0, none⟩) (.pointer (some ⟨gw, 0, none⟩)) n w2.drew hb2.drew h0 h1)
  clear hK K
  iterate 9 (with_reducible refine wpStill_step (fun K hK => ?_); go_simp; with_reducible refine hK _ ?_; clear hK K)
  iterate 9 (with_reducible refine wpStill_skip_ ?_ ?_; (kernel_rfl); intro K hK; go_simp; with_reducible refine hK _ ?_; clear hK K)
  iterate 13 (with_reducible refine wpStill_step (fun K hK => ?_); go_simp; with_reducible refine hK _ ?_; clear hK K)
  with_reducible refine wpStill_step (fun K hK => ?_)
  go_simp
  with_reducible refine ⟨.int .i64 0, ?_, hK _ ?_⟩
  · exact same_sym (code_none xs xt w2.drew)
  clear hK K
  iterate 2 (with_reducible refine wpStill_step (fun K hK => ?_); go_simp; with_reducible refine hK _ ?_; clear hK K)
  with_reducible refine wpStill_step (fun K hK => ?_)
  go_simp
  with_reducible refine ⟨.int .i64 (s * 8 + t + 1), ?_, hK _ ?_⟩
  · exact same_sym (code_some s t w2.drew hs hs1 h0 (by omega))
  clear hK K
  with_reducible refine wpStill_nil ?_
  change wpList _ _ _ _ _ w2.drew
  generalize hw3 : w2.drew = w3
  replace hw2 : Blk w3 gw 141 _ := hw3 ▸ hw2.drew
  replace hb2 : Blk w3 g 113 _ := hw3 ▸ hb2.drew
  replace hp2 : Blk w3 gp 3 _ := hw3 ▸ hp2.drew
  replace hm0 := hw3 ▸ hm0.drew
  clear hw3
  try clear c_hb2 f_hb2 l_hb2
  try clear c_hx f_hx l_hx
  go_wp2_with fail
  (with_reducible refine (swap_yes_ gw 0 acc (s * 8 + t + 1) w3 hw2).mono ?_)
  rintro e w5 ⟨rfl, hk5, hm5⟩
  go_wp2
  go_ret
  exact ⟨rfl, ⟨(by repeat (first | with_reducible assumption | with_reducible apply Blk.new | with_reducible exact Blk.newAt (by first | rfl | (simp; done) | (simp; omega)) | with_reducible apply Blk.alloc | with_reducible apply Blk.drew | with_reducible apply Blk.drewN | with_reducible apply Blk.keep0 (hm := by with_reducible assumption) | with_reducible apply Blk.keep (hm := by with_reducible assumption) (hg := by first | omega | exact not_two (by omega) (by omega)) | with_reducible apply Blk.far (hp := by first | omega | (simp; done) | (simp; omega)) | with_reducible apply Blk.set1 | rfl)), ⟨wrap64 (acc + 1), (by repeat (first | with_reducible assumption | with_reducible apply Blk.new | with_reducible exact Blk.newAt (by first | rfl | (simp; done) | (simp; omega)) | with_reducible apply Blk.alloc | with_reducible apply Blk.drew | with_reducible apply Blk.drewN | with_reducible apply Blk.keep0 (hm := by with_reducible assumption) | with_reducible apply Blk.keep (hm := by with_reducible assumption) (hg := by first | omega | exact not_two (by omega) (by omega)) | with_reducible apply Blk.far (hp := by first | omega | (simp; done) | (simp; omega)) | with_reducible apply Blk.set1 | rfl))⟩, (by repeat (first | with_reducible assumption | with_reducible apply Blk.new | with_reducible exact Blk.newAt (by first | rfl | (simp; done) | (simp; omega)) | with_reducible apply Blk.alloc | with_reducible apply Blk.drew | with_reducible apply Blk.drewN | with_reducible apply Blk.keep0 (hm := by with_reducible assumption) | with_reducible apply Blk.keep (hm := by with_reducible assumption) (hg := by first | omega | exact not_two (by omega) (by omega)) | with_reducible apply Blk.far (hp := by first | omega | (simp; done) | (simp; omega)) | with_reducible apply Blk.set1 | rfl)), hn'.out, n1, n2, n3⟩, (by repeat (first | with_reducible exact Mod.refl _ _ | with_reducible assumption | with_reducible refine Mod.alloc ?_ _ | with_reducible refine Mod.drew ?_ | with_reducible refine Mod.drewN ?_ _ | with_reducible refine Mod.setCell ?_ (by first | exact .inl rfl | (left; (try unfold from_); show _ ≤ _; first | omega | (simp; done) | (simp; omega)) | (right; first | omega | (simp; done) | (simp; omega))) _ | with_reducible refine Mod.call0 ?_ (by with_reducible assumption) | with_reducible refine Mod.call ?_ (by with_reducible assumption) (by first | (rintro _ rfl; first | exact .inl rfl | (right; (first | omega | (simp; done) | (simp; omega)))) | (rintro _ (rfl | rfl) <;> (right; (first | omega | (simp; done) | (simp; omega)))))))⟩
theorem beat_bad (t : Int) (g gw gp n : Nat) (c : Int) (ps : List Int) (w : World) (h : IsGate w g gw gp n c ps) (ht : t < 0 ∨ (n : Int) ≤ t) :
    Calls Try.prog 33 #[.pointer (some ⟨g, 0, none⟩), .int .i64 t] w fun e w' => e = .returned (.int .i64 6) ∧ Mod nowhere w w' := by
  have hb := h.1
  go_enter Try.func33, Try.ntmps33
  go_wp2_with (go_at_call 55; (with_reducible refine (is_no t g (some ⟨gp, 0, none⟩) (.pointer (some ⟨gw, 0, none⟩)) n w hb ht).mono ?_); rintro e w' ⟨rfl, rfl⟩)
  go_ret
  exact ⟨rfl, (by repeat (first | with_reducible exact Mod.refl _ _ | with_reducible assumption | with_reducible refine Mod.alloc ?_ _ | with_reducible refine Mod.drew ?_ | with_reducible refine Mod.drewN ?_ _ | with_reducible refine Mod.setCell ?_ (by first | exact .inl rfl | (left; (try unfold from_); show _ ≤ _; first | omega | (simp; done) | (simp; omega)) | (right; first | omega | (simp; done) | (simp; omega))) _ | with_reducible refine Mod.call0 ?_ (by with_reducible assumption) | with_reducible refine Mod.call ?_ (by with_reducible assumption) (by first | (rintro _ rfl; first | exact .inl rfl | (right; (first | omega | (simp; done) | (simp; omega)))) | (rintro _ (rfl | rfl) <;> (right; (first | omega | (simp; done) | (simp; omega)))))))⟩
set_option maxHeartbeats 400000 in
theorem beat_ok (t : Nat) (p : Int) (g gw gp n : Nat) (c : Int) (ps : List Int) (w : World) (h : IsGate w g gw gp n c ps) (ht : t < n) (hpt : ps[t]? = some p) :
    Calls Try.prog 33 #[.pointer (some ⟨g, 0, none⟩), .int .i64 t] w fun e w' => e = .returned (.int .i64 0) ∧ IsGate w' g gw gp n c (ps.set t (wrap64 (p + 1))) ∧ Mod (· = gp) w w' := by
  obtain ⟨hb, ⟨acc, hw⟩, hp, hn, n1, n2, n3⟩ := h
  have cp : w.cell? ⟨gp, t, none⟩ = some (.int .i64 p) := (hp.cell t).trans (by simp [hpt])
  have fp := hp.frozen
  have lp := hp.lt
  have hn' := hide hn
  have hset := hide (show (ps.map (Value.int .i64)).toArray.setIfInBounds t (.int .i64 (wrap64 (p + 1))) = ((ps.set t (wrap64 (p + 1))).map (Value.int .i64)).toArray by simp [List.map_set])
  clear hn hpt
  have b1 : (0 : Int) ≤ (t : Int) := by omega
  have b2 : (t : Int) < (n : Int) := by omega
  have c_hb := hb.cell; have f_hb := hb.frozen; have l_hb := hb.lt
  go_enter Try.func33, Try.ntmps33
  go_wp2_with (go_at_call 55; (with_reducible refine (is_yes (t : Int) g (some ⟨gp, 0, none⟩) (.pointer (some ⟨gw, 0, none⟩)) n w hb (by omega) (by omega)).mono ?_); rintro e w' ⟨rfl, rfl⟩)
  go_ret
  exact ⟨rfl, ⟨(by repeat (first | with_reducible assumption | with_reducible apply Blk.new | with_reducible exact Blk.newAt (by first | rfl | (simp; done) | (simp; omega)) | with_reducible apply Blk.alloc | with_reducible apply Blk.drew | with_reducible apply Blk.drewN | with_reducible apply Blk.keep0 (hm := by with_reducible assumption) | with_reducible apply Blk.keep (hm := by with_reducible assumption) (hg := by first | omega | exact not_two (by omega) (by omega)) | with_reducible apply Blk.far (hp := by first | omega | (simp; done) | (simp; omega)) | with_reducible apply Blk.set1 | rfl)), ⟨acc, (by repeat (first | with_reducible assumption | with_reducible apply Blk.new | with_reducible exact Blk.newAt (by first | rfl | (simp; done) | (simp; omega)) | with_reducible apply Blk.alloc | with_reducible apply Blk.drew | with_reducible apply Blk.drewN | with_reducible apply Blk.keep0 (hm := by with_reducible assumption) | with_reducible apply Blk.keep (hm := by with_reducible assumption) (hg := by first | omega | exact not_two (by omega) (by omega)) | with_reducible apply Blk.far (hp := by first | omega | (simp; done) | (simp; omega)) | with_reducible apply Blk.set1 | rfl))⟩, hset.out ▸ hp.set_ t _, by rw [List.length_set]; exact hn'.out, n1, n2, n3⟩, (by repeat (first | with_reducible exact Mod.refl _ _ | with_reducible assumption | with_reducible refine Mod.alloc ?_ _ | with_reducible refine Mod.drew ?_ | with_reducible refine Mod.drewN ?_ _ | with_reducible refine Mod.setCell ?_ (by first | exact .inl rfl | (left; (try unfold from_); show _ ≤ _; first | omega | (simp; done) | (simp; omega)) | (right; first | omega | (simp; done) | (simp; omega))) _ | with_reducible refine Mod.call0 ?_ (by with_reducible assumption) | with_reducible refine Mod.call ?_ (by with_reducible assumption) (by first | (rintro _ rfl; first | exact .inl rfl | (right; (first | omega | (simp; done) | (simp; omega)))) | (rintro _ (rfl | rfl) <;> (right; (first | omega | (simp; done) | (simp; omega)))))))⟩
theorem pulse_ok (t : Nat) (p : Int) (g gw gp n : Nat) (c : Int) (ps : List Int) (w : World) (h : IsGate w g gw gp n c ps) (ht : t < n) (hpt : ps[t]? = some p) :
    Calls Try.prog 42 #[.pointer (some ⟨g, 0, none⟩), .int .i64 t] w fun e w' => e = .returned (.int .i64 p) ∧ w = w' := by
  obtain ⟨hb, ⟨acc, hw⟩, hp, hn, n1, n2, n3⟩ := h
  have cp : w.cell? ⟨gp, t, none⟩ = some (.int .i64 p) := (hp.cell t).trans (by simp [hpt])
  clear hn hpt
  have b1 : (0 : Int) ≤ (t : Int) := by omega
  have b2 : (t : Int) < (n : Int) := by omega
  have c_hb := hb.cell; have f_hb := hb.frozen; have l_hb := hb.lt
  go_enter Try.func42, Try.ntmps42
  go_wp2_with (go_at_call 55; (with_reducible refine (is_yes (t : Int) g (some ⟨gp, 0, none⟩) (.pointer (some ⟨gw, 0, none⟩)) n w hb (by omega) (by omega)).mono ?_); rintro e w' ⟨rfl, rfl⟩)
  go_ret
  exact ⟨rfl, rfl⟩
end Go.Proofs.Ytcfpgecchappoaa
