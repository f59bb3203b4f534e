/- Words, their accesses: the law WordCounts, walked. -/
import Derived.Test.YtkabgkkklegaoaaWord2
import Derived.Test.YtkabgkkklegaoaaB2
import Derived.LoopTactic
import Derived.Outline
namespace Go.Proofs.Ytkabgkkklegaoaa
open Go.RowKit

set_option maxHeartbeats 4000000 in
theorem law_wordCounts (n0 : Int) (A : Option Addr) (n c : Nat) (l : List Bool) (A' : Option Addr) (m c' : Nat) (l' : List Int) (w : World) (hl : l.length = n) (hr : Reads w w.heap.size 1 A n (l.map Value.bool))
    (hl' : l'.length = m) (hr' : Reads w w.heap.size 1 A' m (l'.map (Value.int .i8))) (hw8 : ∀ x ∈ l', -128 ≤ x ∧ x ≤ 127) :
    Calls Try.prog 5 #[.int .i64 n0, .slice A n c, .slice A' m c'] w
     fun en w' => en = .returned (.bool true) ∧ Mod nowhere w w' := by
  by_cases g0 : 200 < n ∨ 200 < m
  · go_enter Try.func5, Try.ntmps5
    go_wp2_with fail
    (with_reducible refine (alive1_calls _).mono ?_)
    rintro e w1 ⟨rfl, hbw1⟩
    have hzw1 := hbw1.size
    (try simp at hzw1)
    skip
    skip
    go_wp2
    all_goals first | (exfalso; omega) | skip
    all_goals go_ret
    all_goals exact ⟨rfl, (by repeat (first | with_reducible exact Mod.refl _ _ | with_reducible assumption | with_reducible refine Mod.alloc ?_ _ | with_reducible refine Mod.drew ?_ | with_reducible refine Mod.drewN ?_ _ | with_reducible refine Mod.setCell ?_ (by first | exact .inl rfl | (left; (try unfold from_); show _ ≤ _; first | omega | (simp; done) | (simp; omega)) | (right; first | omega | (simp; done) | (simp; omega))) _ | with_reducible refine Mod.call0 ?_ (by with_reducible assumption) | with_reducible refine Mod.call ?_ (by with_reducible assumption) (by rintro _ rfl; first | exact .inl rfl | (right; (first | omega | (simp; done) | (simp; omega))))))⟩
  have g1 : n ≤ 200 := by omega
  have g2 : m ≤ 200 := by omega
  clear g0
  have HR := hide hr
  have HL := hide hl
  have HR' := hide hr'
  have HL' := hide hl'
  have HW := hide hw8
  clear hr hl hw8 hr' hl'
  go_enter Try.func5, Try.ntmps5
  go_wp2_with fail
  (with_reducible refine (alive1_calls _).mono ?_)
  rintro e w1 ⟨rfl, hbw1⟩
  have hzw1 := hbw1.size
  (try simp at hzw1)
  skip
  skip
  go_wp2_with (go_at_call 14; (with_reducible refine (of_calls _ _).mono ?_); rintro e w' ⟨rfl, rfl⟩)
  go_loopw [8, 9, 10, 11] (fun s8 s9 _ _ wx => ∃ (k : Nat) (v : Int), s8 = .int .i64 v ∧ s9 = .int .i64 k ∧ k ≤ n ∧ IsWord wx w1.heap.size v k ∧ Mod nowhere w wx)
    (fun _ s9 _ _ _ => (300 - (intOf s9)).toNat)
  case atStart => exact ⟨0, n0, rfl, rfl, Nat.zero_le _, (by show Blk _ _ _ #[.int .i64 n0, .int .i64 0]; exact (by repeat (first | with_reducible assumption | with_reducible apply Blk.new | with_reducible exact Blk.newAt (by first | rfl | (simp; done) | (simp; omega)) | with_reducible apply Blk.alloc | with_reducible apply Blk.drew | with_reducible apply Blk.drewN | with_reducible apply Blk.keep0 (hm := by with_reducible assumption) | with_reducible apply Blk.keep (hm := by with_reducible assumption) (hg := by omega) | with_reducible apply Blk.far (hp := by first | omega | (simp; done) | (simp; omega)) | with_reducible apply Blk.set1 | rfl))), (by repeat (first | with_reducible exact Mod.refl _ _ | with_reducible assumption | with_reducible refine Mod.alloc ?_ _ | with_reducible refine Mod.drew ?_ | with_reducible refine Mod.drewN ?_ _ | with_reducible refine Mod.setCell ?_ (by first | exact .inl rfl | (left; (try unfold from_); show _ ≤ _; first | omega | (simp; done) | (simp; omega)) | (right; first | omega | (simp; done) | (simp; omega))) _ | with_reducible refine Mod.call0 ?_ (by with_reducible assumption) | with_reducible refine Mod.call ?_ (by with_reducible assumption) (by rintro _ rfl; first | exact .inl rfl | (right; (first | omega | (simp; done) | (simp; omega))))))⟩
  case round =>
    obtain ⟨k, v, rfl, rfl, hk, hw, hmr⟩ := hrel
    have c_hw := hw.cell; have f_hw := hw.frozen; have l_hw := hw.lt
    by_cases hlt : k < n
    · obtain ⟨b, o, rfl, hbl, hcell⟩ := HR.out.form (by omega) (by omega)
      have hd : (l.map Value.bool)[k]? = some (.bool (l[k]'(by have := HL.out; omega))) := by
        rw [List.getElem?_map, List.getElem?_eq_getElem (by have := HL.out; omega)]; rfl
      have hcd := (hmr.cell (o + k) hbl (fun x => x)).trans (hcell k _ hd)
      generalize l[k]'(by have := HL.out; omega) = d at hcd
      clear hd hcell
      by_cases hdm : d = true ∨ m = 0
      · rcases hdm with rfl | hm
        · skip
          go_wp2_with (first | (go_at_call 15; (with_reducible refine (load_ok _ v k _ (by exact (by repeat (first | with_reducible assumption | with_reducible apply Blk.new | with_reducible exact Blk.newAt (by first | rfl | (simp; done) | (simp; omega)) | with_reducible apply Blk.alloc | with_reducible apply Blk.drew | with_reducible apply Blk.drewN | with_reducible apply Blk.keep0 (hm := by with_reducible assumption) | with_reducible apply Blk.keep (hm := by with_reducible assumption) (hg := by omega) | with_reducible apply Blk.far (hp := by first | omega | (simp; done) | (simp; omega)) | with_reducible apply Blk.set1 | rfl))) (by omega) (by omega)).mono ?_); rintro e w5 ⟨rfl, hkw5, hbw5⟩; have hzw5 := hbw5.size; (try simp at hzw5); have ckw5 := hkw5.cell; have fkw5 := hkw5.frozen; have lkw5 := hkw5.lt; skip; skip) | (go_at_call 18; (with_reducible refine (accesses_calls _ _ _ _ hkw5).mono ?_); rintro e w' ⟨rfl, rfl⟩))
          go_roundw
          case rel => exact ⟨k + 1, v, rfl, by go_num, by omega, (by rw [show ((k + 1 : Nat) : Int) = (k : Int) + 1 from by omega]; exact (by repeat (first | with_reducible assumption | with_reducible apply Blk.new | with_reducible exact Blk.newAt (by first | rfl | (simp; done) | (simp; omega)) | with_reducible apply Blk.alloc | with_reducible apply Blk.drew | with_reducible apply Blk.drewN | with_reducible apply Blk.keep0 (hm := by with_reducible assumption) | with_reducible apply Blk.keep (hm := by with_reducible assumption) (hg := by omega) | with_reducible apply Blk.far (hp := by first | omega | (simp; done) | (simp; omega)) | with_reducible apply Blk.set1 | rfl))), (by repeat (first | with_reducible exact Mod.refl _ _ | with_reducible assumption | with_reducible refine Mod.alloc ?_ _ | with_reducible refine Mod.drew ?_ | with_reducible refine Mod.drewN ?_ _ | with_reducible refine Mod.setCell ?_ (by first | exact .inl rfl | (left; (try unfold from_); show _ ≤ _; first | omega | (simp; done) | (simp; omega)) | (right; first | omega | (simp; done) | (simp; omega))) _ | with_reducible refine Mod.call0 ?_ (by with_reducible assumption) | with_reducible refine Mod.call ?_ (by with_reducible assumption) (by rintro _ rfl; first | exact .inl rfl | (right; (first | omega | (simp; done) | (simp; omega))))))⟩
          case measure => simp [intOf] <;> omega
        · have qm : ((m : Int) == 0) = true := by simp [hm]
          clear hm
          cases d
          all_goals
           go_wp2_with (first | (go_at_call 15; (with_reducible refine (load_ok _ v k _ (by exact (by repeat (first | with_reducible assumption | with_reducible apply Blk.new | with_reducible exact Blk.newAt (by first | rfl | (simp; done) | (simp; omega)) | with_reducible apply Blk.alloc | with_reducible apply Blk.drew | with_reducible apply Blk.drewN | with_reducible apply Blk.keep0 (hm := by with_reducible assumption) | with_reducible apply Blk.keep (hm := by with_reducible assumption) (hg := by omega) | with_reducible apply Blk.far (hp := by first | omega | (simp; done) | (simp; omega)) | with_reducible apply Blk.set1 | rfl))) (by omega) (by omega)).mono ?_); rintro e w5 ⟨rfl, hkw5, hbw5⟩; have hzw5 := hbw5.size; (try simp at hzw5); have ckw5 := hkw5.cell; have fkw5 := hkw5.frozen; have lkw5 := hkw5.lt; skip; skip) | (go_at_call 18; (with_reducible refine (accesses_calls _ _ _ _ hkw5).mono ?_); rintro e w' ⟨rfl, rfl⟩))
           go_roundw
           case rel => exact ⟨k + 1, v, rfl, by go_num, by omega, (by rw [show ((k + 1 : Nat) : Int) = (k : Int) + 1 from by omega]; exact (by repeat (first | with_reducible assumption | with_reducible apply Blk.new | with_reducible exact Blk.newAt (by first | rfl | (simp; done) | (simp; omega)) | with_reducible apply Blk.alloc | with_reducible apply Blk.drew | with_reducible apply Blk.drewN | with_reducible apply Blk.keep0 (hm := by with_reducible assumption) | with_reducible apply Blk.keep (hm := by with_reducible assumption) (hg := by omega) | with_reducible apply Blk.far (hp := by first | omega | (simp; done) | (simp; omega)) | with_reducible apply Blk.set1 | rfl))), (by repeat (first | with_reducible exact Mod.refl _ _ | with_reducible assumption | with_reducible refine Mod.alloc ?_ _ | with_reducible refine Mod.drew ?_ | with_reducible refine Mod.drewN ?_ _ | with_reducible refine Mod.setCell ?_ (by first | exact .inl rfl | (left; (try unfold from_); show _ ≤ _; first | omega | (simp; done) | (simp; omega)) | (right; first | omega | (simp; done) | (simp; omega))) _ | with_reducible refine Mod.call0 ?_ (by with_reducible assumption) | with_reducible refine Mod.call ?_ (by with_reducible assumption) (by rintro _ rfl; first | exact .inl rfl | (right; (first | omega | (simp; done) | (simp; omega))))))⟩
           case measure => simp [intOf] <;> omega
      · have hd : d = false := by cases d <;> simp_all
        subst hd
        have hm0 : 0 < m := by omega
        clear hdm
        obtain ⟨b', o', rfl, hbl', hcell'⟩ := HR'.out.form (by omega) (by omega)
        obtain ⟨j, hj, hjm⟩ : ∃ j : Nat, (k : Int) % (m : Int) = (j : Int) ∧ j < m := ⟨k % m, by omega, Nat.mod_lt _ hm0⟩
        have hmem : l'[j]'(by have := HL'.out; omega) ∈ l' := List.getElem_mem _
        have hd' : (l'.map (Value.int .i8))[j]? = some (.int .i8 (l'[j]'(by have := HL'.out; omega))) := by
          rw [List.getElem?_map, List.getElem?_eq_getElem (by have := HL'.out; omega)]; rfl
        have hcd' := (hmr.cell (o' + j) hbl' (fun x => x)).trans (hcell' j _ hd')
        obtain ⟨hx0, hx1⟩ := HW.out _ hmem
        generalize l'[j]'(by have := HL'.out; omega) = x at hcd' hx0 hx1
        clear hd' hcell' hmem
        by_cases h3 : x.tmod 3 = 0
        · have q3 : (x.tmod 3 == 0) = true := beq_iff_eq.2 h3
          clear h3
          by_cases hv : v = x
          · subst hv
            go_wp2_with (first | (go_at_call 16; (with_reducible refine (swap_yes _ v k v _ (by exact (by repeat (first | with_reducible assumption | with_reducible apply Blk.new | with_reducible exact Blk.newAt (by first | rfl | (simp; done) | (simp; omega)) | with_reducible apply Blk.alloc | with_reducible apply Blk.drew | with_reducible apply Blk.drewN | with_reducible apply Blk.keep0 (hm := by with_reducible assumption) | with_reducible apply Blk.keep (hm := by with_reducible assumption) (hg := by omega) | with_reducible apply Blk.far (hp := by first | omega | (simp; done) | (simp; omega)) | with_reducible apply Blk.set1 | rfl))) (by omega) (by omega)).mono ?_); rintro e w5 ⟨rfl, hkw5, hbw5⟩; have hzw5 := hbw5.size; (try simp at hzw5); have ckw5 := hkw5.cell; have fkw5 := hkw5.frozen; have lkw5 := hkw5.lt; skip; skip) | (go_at_call 18; (with_reducible refine (accesses_calls _ _ _ _ hkw5).mono ?_); rintro e w' ⟨rfl, rfl⟩))
            go_roundw
            case rel => exact ⟨k + 1, v, rfl, by go_num, by omega, (by rw [show ((k + 1 : Nat) : Int) = (k : Int) + 1 from by omega]; exact (by repeat (first | with_reducible assumption | with_reducible apply Blk.new | with_reducible exact Blk.newAt (by first | rfl | (simp; done) | (simp; omega)) | with_reducible apply Blk.alloc | with_reducible apply Blk.drew | with_reducible apply Blk.drewN | with_reducible apply Blk.keep0 (hm := by with_reducible assumption) | with_reducible apply Blk.keep (hm := by with_reducible assumption) (hg := by omega) | with_reducible apply Blk.far (hp := by first | omega | (simp; done) | (simp; omega)) | with_reducible apply Blk.set1 | rfl))), (by repeat (first | with_reducible exact Mod.refl _ _ | with_reducible assumption | with_reducible refine Mod.alloc ?_ _ | with_reducible refine Mod.drew ?_ | with_reducible refine Mod.drewN ?_ _ | with_reducible refine Mod.setCell ?_ (by first | exact .inl rfl | (left; (try unfold from_); show _ ≤ _; first | omega | (simp; done) | (simp; omega)) | (right; first | omega | (simp; done) | (simp; omega))) _ | with_reducible refine Mod.call0 ?_ (by with_reducible assumption) | with_reducible refine Mod.call ?_ (by with_reducible assumption) (by rintro _ rfl; first | exact .inl rfl | (right; (first | omega | (simp; done) | (simp; omega))))))⟩
            case measure => simp [intOf] <;> omega
          · have q4 : (x == v) = false := beq_eq_false_iff_ne.2 (fun h => hv h.symm)
            have HV := hide hv
            clear hv
            go_wp2_with (first | (go_at_call 16; (with_reducible refine (swap_no _ v k x x _ (by exact (by repeat (first | with_reducible assumption | with_reducible apply Blk.new | with_reducible exact Blk.newAt (by first | rfl | (simp; done) | (simp; omega)) | with_reducible apply Blk.alloc | with_reducible apply Blk.drew | with_reducible apply Blk.drewN | with_reducible apply Blk.keep0 (hm := by with_reducible assumption) | with_reducible apply Blk.keep (hm := by with_reducible assumption) (hg := by omega) | with_reducible apply Blk.far (hp := by first | omega | (simp; done) | (simp; omega)) | with_reducible apply Blk.set1 | rfl))) (by omega) (by omega) HV.out).mono ?_); rintro e w5 ⟨rfl, hkw5, hbw5⟩; have hzw5 := hbw5.size; (try simp at hzw5); have ckw5 := hkw5.cell; have fkw5 := hkw5.frozen; have lkw5 := hkw5.lt; skip; skip) | (go_at_call 18; (with_reducible refine (accesses_calls _ _ _ _ hkw5).mono ?_); rintro e w' ⟨rfl, rfl⟩))
            go_roundw
            case rel => exact ⟨k + 1, v, rfl, by go_num, by omega, (by rw [show ((k + 1 : Nat) : Int) = (k : Int) + 1 from by omega]; exact (by repeat (first | with_reducible assumption | with_reducible apply Blk.new | with_reducible exact Blk.newAt (by first | rfl | (simp; done) | (simp; omega)) | with_reducible apply Blk.alloc | with_reducible apply Blk.drew | with_reducible apply Blk.drewN | with_reducible apply Blk.keep0 (hm := by with_reducible assumption) | with_reducible apply Blk.keep (hm := by with_reducible assumption) (hg := by omega) | with_reducible apply Blk.far (hp := by first | omega | (simp; done) | (simp; omega)) | with_reducible apply Blk.set1 | rfl))), (by repeat (first | with_reducible exact Mod.refl _ _ | with_reducible assumption | with_reducible refine Mod.alloc ?_ _ | with_reducible refine Mod.drew ?_ | with_reducible refine Mod.drewN ?_ _ | with_reducible refine Mod.setCell ?_ (by first | exact .inl rfl | (left; (try unfold from_); show _ ≤ _; first | omega | (simp; done) | (simp; omega)) | (right; first | omega | (simp; done) | (simp; omega))) _ | with_reducible refine Mod.call0 ?_ (by with_reducible assumption) | with_reducible refine Mod.call ?_ (by with_reducible assumption) (by rintro _ rfl; first | exact .inl rfl | (right; (first | omega | (simp; done) | (simp; omega))))))⟩
            case measure => simp [intOf] <;> omega
        · have q3 : (x.tmod 3 == 0) = false := beq_eq_false_iff_ne.2 h3
          clear h3
          go_wp2_with (first | (go_at_call 16; (with_reducible refine (swap_yes _ v k x _ (by exact (by repeat (first | with_reducible assumption | with_reducible apply Blk.new | with_reducible exact Blk.newAt (by first | rfl | (simp; done) | (simp; omega)) | with_reducible apply Blk.alloc | with_reducible apply Blk.drew | with_reducible apply Blk.drewN | with_reducible apply Blk.keep0 (hm := by with_reducible assumption) | with_reducible apply Blk.keep (hm := by with_reducible assumption) (hg := by omega) | with_reducible apply Blk.far (hp := by first | omega | (simp; done) | (simp; omega)) | with_reducible apply Blk.set1 | rfl))) (by omega) (by omega)).mono ?_); rintro e w5 ⟨rfl, hkw5, hbw5⟩; have hzw5 := hbw5.size; (try simp at hzw5); have ckw5 := hkw5.cell; have fkw5 := hkw5.frozen; have lkw5 := hkw5.lt; skip; skip) | (go_at_call 18; (with_reducible refine (accesses_calls _ _ _ _ hkw5).mono ?_); rintro e w' ⟨rfl, rfl⟩))
          go_roundw
          case rel => exact ⟨k + 1, x, rfl, by go_num, by omega, (by rw [show ((k + 1 : Nat) : Int) = (k : Int) + 1 from by omega]; exact (by repeat (first | with_reducible assumption | with_reducible apply Blk.new | with_reducible exact Blk.newAt (by first | rfl | (simp; done) | (simp; omega)) | with_reducible apply Blk.alloc | with_reducible apply Blk.drew | with_reducible apply Blk.drewN | with_reducible apply Blk.keep0 (hm := by with_reducible assumption) | with_reducible apply Blk.keep (hm := by with_reducible assumption) (hg := by omega) | with_reducible apply Blk.far (hp := by first | omega | (simp; done) | (simp; omega)) | with_reducible apply Blk.set1 | rfl))), (by repeat (first | with_reducible exact Mod.refl _ _ | with_reducible assumption | with_reducible refine Mod.alloc ?_ _ | with_reducible refine Mod.drew ?_ | with_reducible refine Mod.drewN ?_ _ | with_reducible refine Mod.setCell ?_ (by first | exact .inl rfl | (left; (try unfold from_); show _ ≤ _; first | omega | (simp; done) | (simp; omega)) | (right; first | omega | (simp; done) | (simp; omega))) _ | with_reducible refine Mod.call0 ?_ (by with_reducible assumption) | with_reducible refine Mod.call ?_ (by with_reducible assumption) (by rintro _ rfl; first | exact .inl rfl | (right; (first | omega | (simp; done) | (simp; omega))))))⟩
          case measure => simp [intOf] <;> omega
    · go_wp2
      go_ret
      exact ⟨rfl, (by repeat (first | with_reducible exact Mod.refl _ _ | with_reducible assumption | with_reducible refine Mod.alloc ?_ _ | with_reducible refine Mod.drew ?_ | with_reducible refine Mod.drewN ?_ _ | with_reducible refine Mod.setCell ?_ (by first | exact .inl rfl | (left; (try unfold from_); show _ ≤ _; first | omega | (simp; done) | (simp; omega)) | (right; first | omega | (simp; done) | (simp; omega))) _ | with_reducible refine Mod.call0 ?_ (by with_reducible assumption) | with_reducible refine Mod.call ?_ (by with_reducible assumption) (by rintro _ rfl; first | exact .inl rfl | (right; (first | omega | (simp; done) | (simp; omega))))))⟩
end Go.Proofs.Ytkabgkkklegaoaa
