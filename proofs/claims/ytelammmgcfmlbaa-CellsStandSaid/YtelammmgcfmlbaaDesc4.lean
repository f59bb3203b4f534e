/- A descriptor that is turned, raised: the law DescOnce, walked. -/
import Derived.Test.YtelammmgcfmlbaaDesc3
import Derived.Test.YtelammmgcfmlbaaB2
import Derived.LoopTactic
import Derived.Outline
namespace Go.Proofs.Ytelammmgcfmlbaa
open Go.RowKit

set_option maxHeartbeats 1000000 in
theorem turn_bad (t : Nat) (id to : Int) (a m : Nat) (w : World) (ht : IsTab w t a m) (hto : ¬ to = 2 ∧ ¬ to = 3) :
    Calls Try.prog 15 #[.pointer (some ⟨t, 0, none⟩), .int .i64 id, .int .i64 to] w fun e w' => e = .returned (.bool false) ∧ Mod nowhere w w' := by
  have q2 : (to == 2) = false := beq_eq_false_iff_ne.2 hto.1
  have q3 : (to == 3) = false := beq_eq_false_iff_ne.2 hto.2
  clear hto
  have c_ht := ht.cell; have f_ht := ht.frozen; have l_ht := ht.lt
  go_enter Try.func15, Try.ntmps15
  go_wp2_with go_in
  go_ret
  exact ⟨rfl, (by repeat (first | with_reducible exact Mod.refl _ _ | with_reducible assumption | with_reducible refine Mod.alloc ?_ _ | with_reducible refine Mod.drew ?_ | with_reducible refine Mod.drewN ?_ _ | with_reducible refine Mod.setCell ?_ (by first | exact .inl rfl | (left; (try unfold from_); show _ ≤ _; first | omega | (simp; done) | (simp; omega)) | (right; first | omega | (simp; done) | (simp; omega))) _ | with_reducible refine Mod.call0 ?_ (by with_reducible assumption) | with_reducible refine Mod.call ?_ (by with_reducible assumption) (by first | (rintro _ rfl; first | exact .inl rfl | (right; (first | omega | (simp; done) | (simp; omega)))) | (rintro _ (rfl | rfl) <;> (right; (first | omega | (simp; done) | (simp; omega)))))))⟩
set_option maxHeartbeats 2000000 in
theorem raise_ok (t a m n : Nat) (M : Int → Option Nat) (id : Int) (d s : Nat) (prio waiting acc : Int) (w : World) (ht : IsTab w t a m) (hm : IsPMap w m n M) (hi : I64 id) (hM : M id = some d) (hd : IsWds w d s prio waiting) (hs : IsWord w s 1 acc) (hne : d ≠ s) :
    Calls Try.prog 17 #[.pointer (some ⟨t, 0, none⟩), .int .i64 id] w fun e w' => e = .returned (.int .i64 0) ∧ IsWord w' s 1 (wrap64 (acc + 1)) ∧ IsWds w' d s (wrap64 (prio + 1)) waiting ∧ Mod (two s d) w w' := by
  have hlook : ∀ W, Mod nowhere w W → (Instr.lookup 89 (.map (some m)) (.int .i64 id) false).run Try.prog W = .ok (.pointer (some ⟨d, 0, none⟩)) W := by
    intro W hW
    have := (hm.keep0 hW).look id hi
    rwa [hM] at this
  have l1 := hlook ((w.alloc (.cells #[.func (.func 53) #[] #[]] 99)).alloc (.cells #[.int .i64 0] 28)) (((Mod.refl _ _).alloc _).alloc _)
  clear hlook
  have l_s := hs.lt
  have c_ht := ht.cell; have f_ht := ht.frozen; have l_ht := ht.lt; have c_hd := hd.cell; have f_hd := hd.frozen; have l_hd := hd.lt
  go_enter Try.func17, Try.ntmps17
  go_wp2_with (first | (go_at_call 51; (with_reducible refine (load_calls s 1 acc _ (by exact (by repeat (first | with_reducible assumption | with_reducible apply Blk.new | with_reducible exact Blk.newAt (by first | rfl | (simp; done) | (simp; omega)) | with_reducible apply Blk.alloc | with_reducible apply Blk.drew | with_reducible apply Blk.drewN | with_reducible apply Blk.keep0 (hm := by with_reducible assumption) | with_reducible apply Blk.keep (hm := by with_reducible assumption) (hg := by first | omega | exact not_two (by omega) (by omega)) | with_reducible apply Blk.far (hp := by first | omega | (simp; done) | (simp; omega)) | with_reducible apply Blk.set1 | rfl)))).mono ?_); rintro e w5 ⟨rfl, hkw5, hbw5⟩; have hzw5 := hbw5.size; (try simp at hzw5); have ckw5 := hkw5.cell; have fkw5 := hkw5.frozen; have lkw5 := hkw5.lt; (try (have ltw50 : w.heap.size < w5.heap.size := (by omega); have lcw50 := fun o => hbw5.cell (b := w.heap.size) o (by first | omega | (simp; done) | (simp; omega)) (by first | omega | (simp; omega)); have lfw50 := fun o => hbw5.frozen (b := w.heap.size) o (by first | omega | (simp; done) | (simp; omega)) (by first | omega | (simp; omega)))); (try (have ltw51 : w.heap.size + 1 < w5.heap.size := (by omega); have lcw51 := fun o => hbw5.cell (b := w.heap.size + 1) o (by first | omega | (simp; done) | (simp; omega)) (by first | omega | (simp; omega)); have lfw51 := fun o => hbw5.frozen (b := w.heap.size + 1) o (by first | omega | (simp; done) | (simp; omega)) (by first | omega | (simp; omega)))); (try (have ltw52 : d < w5.heap.size := (by omega); have lcw52 := fun o => hbw5.cell (b := d) o (by first | omega | (simp; done) | (simp; omega)) (by first | omega | (simp; omega)); have lfw52 := fun o => hbw5.frozen (b := d) o (by first | omega | (simp; done) | (simp; omega)) (by first | omega | (simp; omega)))); skip) | go_in)
  go_end0
  go_wp2
  go_end0
  go_wp2
  go_ret
  exact ⟨rfl, (by repeat (first | with_reducible assumption | with_reducible apply Blk.new | with_reducible exact Blk.newAt (by first | rfl | (simp; done) | (simp; omega)) | with_reducible apply Blk.alloc | with_reducible apply Blk.drew | with_reducible apply Blk.drewN | with_reducible apply Blk.keep0 (hm := by with_reducible assumption) | with_reducible apply Blk.keep (hm := by with_reducible assumption) (hg := by first | omega | exact not_two (by omega) (by omega)) | with_reducible apply Blk.far (hp := by first | omega | (simp; done) | (simp; omega)) | with_reducible apply Blk.set1 | rfl)), (by repeat (first | with_reducible assumption | with_reducible apply Blk.new | with_reducible exact Blk.newAt (by first | rfl | (simp; done) | (simp; omega)) | with_reducible apply Blk.alloc | with_reducible apply Blk.drew | with_reducible apply Blk.drewN | with_reducible apply Blk.keep0 (hm := by with_reducible assumption) | with_reducible apply Blk.keep (hm := by with_reducible assumption) (hg := by first | omega | exact not_two (by omega) (by omega)) | with_reducible apply Blk.far (hp := by first | omega | (simp; done) | (simp; omega)) | with_reducible apply Blk.set1 | rfl)), ((((Mod.refl (two s d) w).alloc _).alloc _).call hbw5 (by rintro i rfl; exact .inl (.inl rfl))).setCell (.inl (.inr rfl)) _⟩
set_option maxHeartbeats 2000000 in
theorem raise_no (t a m n : Nat) (M : Int → Option Nat) (id : Int) (d s : Nat) (prio waiting st acc : Int) (w : World) (ht : IsTab w t a m) (hm : IsPMap w m n M) (hi : I64 id) (hM : M id = some d) (hd : IsWds w d s prio waiting) (hs : IsWord w s st acc) (hne : d ≠ s) (hst : ¬ st = 1) :
    Calls Try.prog 17 #[.pointer (some ⟨t, 0, none⟩), .int .i64 id] w fun e w' => e = .returned (.int .i64 7) ∧ IsWord w' s st (wrap64 (acc + 1)) ∧ Mod (· = s) w w' := by
  have hlook : ∀ W, Mod nowhere w W → (Instr.lookup 89 (.map (some m)) (.int .i64 id) false).run Try.prog W = .ok (.pointer (some ⟨d, 0, none⟩)) W := by
    intro W hW
    have := (hm.keep0 hW).look id hi
    rwa [hM] at this
  have l1 := hlook ((w.alloc (.cells #[.func (.func 53) #[] #[]] 99)).alloc (.cells #[.int .i64 0] 28)) (((Mod.refl _ _).alloc _).alloc _)
  clear hlook
  have q1 : (st != 1) = true := by simp [hst]
  clear hst
  have l_s := hs.lt
  have c_ht := ht.cell; have f_ht := ht.frozen; have l_ht := ht.lt; have c_hd := hd.cell; have f_hd := hd.frozen; have l_hd := hd.lt
  go_enter Try.func17, Try.ntmps17
  go_wp2_with (first | (go_at_call 51; (with_reducible refine (load_calls s st acc _ (by exact (by repeat (first | with_reducible assumption | with_reducible apply Blk.new | with_reducible exact Blk.newAt (by first | rfl | (simp; done) | (simp; omega)) | with_reducible apply Blk.alloc | with_reducible apply Blk.drew | with_reducible apply Blk.drewN | with_reducible apply Blk.keep0 (hm := by with_reducible assumption) | with_reducible apply Blk.keep (hm := by with_reducible assumption) (hg := by first | omega | exact not_two (by omega) (by omega)) | with_reducible apply Blk.far (hp := by first | omega | (simp; done) | (simp; omega)) | with_reducible apply Blk.set1 | rfl)))).mono ?_); rintro e w5 ⟨rfl, hkw5, hbw5⟩; have hzw5 := hbw5.size; (try simp at hzw5); have ckw5 := hkw5.cell; have fkw5 := hkw5.frozen; have lkw5 := hkw5.lt; (try (have ltw50 : w.heap.size < w5.heap.size := (by omega); have lcw50 := fun o => hbw5.cell (b := w.heap.size) o (by first | omega | (simp; done) | (simp; omega)) (by first | omega | (simp; omega)); have lfw50 := fun o => hbw5.frozen (b := w.heap.size) o (by first | omega | (simp; done) | (simp; omega)) (by first | omega | (simp; omega)))); (try (have ltw51 : w.heap.size + 1 < w5.heap.size := (by omega); have lcw51 := fun o => hbw5.cell (b := w.heap.size + 1) o (by first | omega | (simp; done) | (simp; omega)) (by first | omega | (simp; omega)); have lfw51 := fun o => hbw5.frozen (b := w.heap.size + 1) o (by first | omega | (simp; done) | (simp; omega)) (by first | omega | (simp; omega)))); (try (have ltw52 : d < w5.heap.size := (by omega); have lcw52 := fun o => hbw5.cell (b := d) o (by first | omega | (simp; done) | (simp; omega)) (by first | omega | (simp; omega)); have lfw52 := fun o => hbw5.frozen (b := d) o (by first | omega | (simp; done) | (simp; omega)) (by first | omega | (simp; omega)))); skip) | go_in)
  refine bodyPost_ret (results_none rfl _ _ _) rfl ?_
  go_wp2
  go_ret
  exact ⟨rfl, (by repeat (first | with_reducible assumption | with_reducible apply Blk.new | with_reducible exact Blk.newAt (by first | rfl | (simp; done) | (simp; omega)) | with_reducible apply Blk.alloc | with_reducible apply Blk.drew | with_reducible apply Blk.drewN | with_reducible apply Blk.keep0 (hm := by with_reducible assumption) | with_reducible apply Blk.keep (hm := by with_reducible assumption) (hg := by first | omega | exact not_two (by omega) (by omega)) | with_reducible apply Blk.far (hp := by first | omega | (simp; done) | (simp; omega)) | with_reducible apply Blk.set1 | rfl)), (by repeat (first | with_reducible exact Mod.refl _ _ | with_reducible assumption | with_reducible refine Mod.alloc ?_ _ | with_reducible refine Mod.drew ?_ | with_reducible refine Mod.drewN ?_ _ | with_reducible refine Mod.setCell ?_ (by first | exact .inl rfl | (left; (try unfold from_); show _ ≤ _; first | omega | (simp; done) | (simp; omega)) | (right; first | omega | (simp; done) | (simp; omega))) _ | with_reducible refine Mod.call0 ?_ (by with_reducible assumption) | with_reducible refine Mod.call ?_ (by with_reducible assumption) (by first | (rintro _ rfl; first | exact .inl rfl | (right; (first | omega | (simp; done) | (simp; omega)))) | (rintro _ (rfl | rfl) <;> (right; (first | omega | (simp; done) | (simp; omega)))))))⟩
def mapOne (d : Nat) (k : Int) : Option Nat := if k = ((0 : Nat) : Int) then some d else none

set_option maxRecDepth 100000 in
set_option maxHeartbeats 8000000 in
theorem law_descOnce (A : Option Addr) (n c : Nat) (l : List Int) (w : World) (hl : l.length = n) (hr : Reads w w.heap.size 1 A n (l.map (Value.int .i8))) (hw8 : ∀ x ∈ l, -128 ≤ x ∧ x ≤ 127) :
    Calls Try.prog 3 #[.slice A n c] w
     fun en w' => en = .returned (.bool true) ∧ Mod nowhere w w' := by
  by_cases g0 : 200 < n
  · go_enter Try.func3, Try.ntmps3
    go_wp2_with fail
    (with_reducible refine (alive3_calls _).mono ?_)
    rintro e w1 ⟨rfl, hbw1⟩
    have hzw1 := hbw1.size
    (try simp at hzw1)
    skip
    skip
    go_wp2
    go_ret
    exact ⟨rfl, (by repeat (first | with_reducible exact Mod.refl _ _ | with_reducible assumption | with_reducible refine Mod.alloc ?_ _ | with_reducible refine Mod.drew ?_ | with_reducible refine Mod.drewN ?_ _ | with_reducible refine Mod.setCell ?_ (by first | exact .inl rfl | (left; (try unfold from_); show _ ≤ _; first | omega | (simp; done) | (simp; omega)) | (right; first | omega | (simp; done) | (simp; omega))) _ | with_reducible refine Mod.call0 ?_ (by with_reducible assumption) | with_reducible refine Mod.call ?_ (by with_reducible assumption) (by first | (rintro _ rfl; first | exact .inl rfl | (right; (first | omega | (simp; done) | (simp; omega)))) | (rintro _ (rfl | rfl) <;> (right; (first | omega | (simp; done) | (simp; omega)))))))⟩
  have HR := hide hr
  have HL := hide hl
  have HW := hide hw8
  have i0 : I64 0 := by unfold I64; omega
  clear hr hl hw8
  go_enter Try.func3, Try.ntmps3
  go_wp2_with fail
  (with_reducible refine (alive3_calls _).mono ?_)
  rintro e w0 ⟨rfl, hbw0⟩
  have hzw0 := hbw0.size
  (try simp at hzw0)
  skip
  skip
  go_wp2_with fail
  (with_reducible refine (made_calls 3 _ (by decide) (by decide)).mono ?_)
  rintro e w1 ⟨a, m, t, rfl, ha, ht, hm, b1, b2, b3, n1, n2, n3, m1⟩
  have z1 := m1.size
  have lt1 := ht.lt
  have lm1 := hm.lt
  go_wp2_with fail
  (with_reducible refine (begin_calls t a a m 0 0 3 [] (fun _ => none) 1 2 3 4 5 w1 ht hm ha (by decide) (by decide) (by decide) (by omega) (by decide) (by decide) (by decide) (by decide) (by decide)).mono ?_)
  rintro e w2 ⟨rfl, ⟨hput, ht2, d, s, acc, hm2, hd2, hs2, c1, c2, c3⟩, m2⟩
  have z2 := m2.size
  have y2 : Mod nowhere w w2 := (Mod.call0 (Mod.call0 (Mod.refl _ _) hbw0) m1).call m2 (by rintro i (rfl | rfl | rfl) <;> (right; omega))
  have hmo : IsPMap w2 m 1 (mapOne d) := hm2
  have hdd : t ≠ s ∧ m ≠ s ∧ d ≠ s ∧ t ≠ d ∧ m ≠ d := by omega
  have hww : w.heap.size ≤ s ∧ w.heap.size ≤ d := by omega
  clear hput hm2
  go_wp2_with fail
  go_loopw [7, 8, 9, 10] (fun s7 s8 _ _ wx => ∃ (k : Nat) (won acc prio : Int), s7 = .int .i64 won ∧ s8 = .int .i64 k ∧ k ≤ n ∧ (won = 1 ∨ won = 2 ∨ won = 3) ∧ IsTab wx t a m ∧ IsPMap wx m 1 (mapOne d) ∧ IsWds wx d s prio 0 ∧ IsWord wx s won acc ∧ Mod nowhere w wx)
    (fun _ s8 _ _ _ => (300 - (intOf s8)).toNat)
  case atStart => exact ⟨0, 1, acc, 5, rfl, rfl, Nat.zero_le _, .inl rfl, ht2, hmo, hd2, hs2, y2⟩
  case round =>
    obtain ⟨k, won, acc, prio, rfl, rfl, hk, hwon, ht, hm, hd, hs, hmr⟩ := hrel
    have ltt := ht.lt
    have ltm := hm.lt
    have ltd := hd.lt
    have lts := hs.lt
    by_cases hlt : k < n
    · obtain ⟨b, o, rfl, hbl, hcell⟩ := HR.out.form (by omega) (by omega)
      have hmem : l[k]'(by have := HL.out; omega) ∈ l := List.getElem_mem _
      have hdd2 : (l.map (Value.int .i8))[k]? = some (.int .i8 (l[k]'(by have := HL.out; omega))) := by
        rw [List.getElem?_map, List.getElem?_eq_getElem (by have := HL.out; omega)]; rfl
      have hcd := (hmr.cell (o + k) hbl (fun x => x)).trans (hcell k _ hdd2)
      obtain ⟨hx0, hx1⟩ := HW.out _ hmem
      generalize l[k]'(by have := HL.out; omega) = x at hcd hx0 hx1
      clear hdd2 hcell hmem
      have hxc : x = 2 ∨ x = 3 ∨ (¬ x = 2 ∧ ¬ x = 3) := by omega
      rcases hwon with rfl | rfl | rfl
      · rcases hxc with rfl | rfl | hx
        · go_wp2_with fail
          (with_reducible refine (turn_yes t a m 1 (mapOne d) 0 2 d s prio 0 acc _ (by exact (by repeat (first | with_reducible assumption | with_reducible apply Blk.new | with_reducible exact Blk.newAt (by first | rfl | (simp; done) | (simp; omega)) | with_reducible apply Blk.alloc | with_reducible apply Blk.drew | with_reducible apply Blk.drewN | with_reducible apply Blk.keep0 (hm := by with_reducible assumption) | with_reducible apply Blk.keep (hm := by with_reducible assumption) (hg := by first | omega | exact not_two (by omega) (by omega)) | with_reducible apply Blk.far (hp := by first | omega | (simp; done) | (simp; omega)) | with_reducible apply Blk.set1 | rfl))) hm i0 rfl hd hs (by decide)).mono ?_)
          rintro e w5 ⟨rfl, hkw5, hbw5⟩
          have hzw5 := hbw5.size
          (try simp at hzw5)
          have ckw5 := hkw5.cell; have fkw5 := hkw5.frozen; have lkw5 := hkw5.lt
          skip
          skip
          have ht5 := Blk.keep ht hbw5 (by omega)
          have hm5 := hm.keep hbw5 (by omega)
          have hd5 := Blk.keep hd hbw5 (by omega)
          go_wp2_with fail
          (with_reducible refine (status_calls t a m 1 (mapOne d) 0 d s prio 0 2 _ _ ht5 hm5 i0 rfl hd5 hkw5).mono ?_)
          rintro e w6 ⟨rfl, hkw6, hbw6⟩
          have hzw6 := hbw6.size
          (try simp at hzw6)
          have ckw6 := hkw6.cell; have fkw6 := hkw6.frozen; have lkw6 := hkw6.lt
          skip
          skip
          have ht6 := Blk.keep ht5 hbw6 (by omega)
          have hm6 := hm5.keep hbw6 (by omega)
          have hd6 := Blk.keep hd5 hbw6 (by omega)
          go_wp2_with fail
          (with_reducible refine (raise_no t a m 1 (mapOne d) 0 d s prio 0 2 _ _ ht6 hm6 i0 rfl hd6 hkw6 (by omega) (by decide)).mono ?_)
          rintro e w7 ⟨rfl, hs7, hm7⟩
          have ht7 := Blk.keep ht6 hm7 (by omega)
          have hp7 := hm6.keep hm7 (by omega)
          have hd7 := Blk.keep hd6 hm7 (by omega)
          go_wp2
          go_roundw
          case rel => exact ⟨k + 1, 2, _, _, rfl, by go_num, by omega, by decide, ht7, hp7, hd7, hs7, (by repeat (first | with_reducible exact Mod.refl _ _ | with_reducible assumption | with_reducible refine Mod.alloc ?_ _ | with_reducible refine Mod.drew ?_ | with_reducible refine Mod.drewN ?_ _ | with_reducible refine Mod.setCell ?_ (by first | exact .inl rfl | (left; (try unfold from_); show _ ≤ _; first | omega | (simp; done) | (simp; omega)) | (right; first | omega | (simp; done) | (simp; omega))) _ | with_reducible refine Mod.call0 ?_ (by with_reducible assumption) | with_reducible refine Mod.call ?_ (by with_reducible assumption) (by first | (rintro _ rfl; first | exact .inl rfl | (right; (first | omega | (simp; done) | (simp; omega)))) | (rintro _ (rfl | rfl) <;> (right; (first | omega | (simp; done) | (simp; omega)))))))⟩
          case measure => simp [intOf] <;> omega
        · go_wp2_with fail
          (with_reducible refine (turn_yes t a m 1 (mapOne d) 0 3 d s prio 0 acc _ (by exact (by repeat (first | with_reducible assumption | with_reducible apply Blk.new | with_reducible exact Blk.newAt (by first | rfl | (simp; done) | (simp; omega)) | with_reducible apply Blk.alloc | with_reducible apply Blk.drew | with_reducible apply Blk.drewN | with_reducible apply Blk.keep0 (hm := by with_reducible assumption) | with_reducible apply Blk.keep (hm := by with_reducible assumption) (hg := by first | omega | exact not_two (by omega) (by omega)) | with_reducible apply Blk.far (hp := by first | omega | (simp; done) | (simp; omega)) | with_reducible apply Blk.set1 | rfl))) hm i0 rfl hd hs (by decide)).mono ?_)
          rintro e w5 ⟨rfl, hkw5, hbw5⟩
          have hzw5 := hbw5.size
          (try simp at hzw5)
          have ckw5 := hkw5.cell; have fkw5 := hkw5.frozen; have lkw5 := hkw5.lt
          skip
          skip
          have ht5 := Blk.keep ht hbw5 (by omega)
          have hm5 := hm.keep hbw5 (by omega)
          have hd5 := Blk.keep hd hbw5 (by omega)
          go_wp2_with fail
          (with_reducible refine (status_calls t a m 1 (mapOne d) 0 d s prio 0 3 _ _ ht5 hm5 i0 rfl hd5 hkw5).mono ?_)
          rintro e w6 ⟨rfl, hkw6, hbw6⟩
          have hzw6 := hbw6.size
          (try simp at hzw6)
          have ckw6 := hkw6.cell; have fkw6 := hkw6.frozen; have lkw6 := hkw6.lt
          skip
          skip
          have ht6 := Blk.keep ht5 hbw6 (by omega)
          have hm6 := hm5.keep hbw6 (by omega)
          have hd6 := Blk.keep hd5 hbw6 (by omega)
          go_wp2_with fail
          (with_reducible refine (raise_no t a m 1 (mapOne d) 0 d s prio 0 3 _ _ ht6 hm6 i0 rfl hd6 hkw6 (by omega) (by decide)).mono ?_)
          rintro e w7 ⟨rfl, hs7, hm7⟩
          have ht7 := Blk.keep ht6 hm7 (by omega)
          have hp7 := hm6.keep hm7 (by omega)
          have hd7 := Blk.keep hd6 hm7 (by omega)
          go_wp2
          go_roundw
          case rel => exact ⟨k + 1, 3, _, _, rfl, by go_num, by omega, by decide, ht7, hp7, hd7, hs7, (by repeat (first | with_reducible exact Mod.refl _ _ | with_reducible assumption | with_reducible refine Mod.alloc ?_ _ | with_reducible refine Mod.drew ?_ | with_reducible refine Mod.drewN ?_ _ | with_reducible refine Mod.setCell ?_ (by first | exact .inl rfl | (left; (try unfold from_); show _ ≤ _; first | omega | (simp; done) | (simp; omega)) | (right; first | omega | (simp; done) | (simp; omega))) _ | with_reducible refine Mod.call0 ?_ (by with_reducible assumption) | with_reducible refine Mod.call ?_ (by with_reducible assumption) (by first | (rintro _ rfl; first | exact .inl rfl | (right; (first | omega | (simp; done) | (simp; omega)))) | (rintro _ (rfl | rfl) <;> (right; (first | omega | (simp; done) | (simp; omega)))))))⟩
          case measure => simp [intOf] <;> omega
        · have q2 : (x == 2) = false := beq_eq_false_iff_ne.2 hx.1
          have q3 : (x == 3) = false := beq_eq_false_iff_ne.2 hx.2
          go_wp2_with fail
          (with_reducible refine (turn_bad t 0 x a m _ (by exact (by repeat (first | with_reducible assumption | with_reducible apply Blk.new | with_reducible exact Blk.newAt (by first | rfl | (simp; done) | (simp; omega)) | with_reducible apply Blk.alloc | with_reducible apply Blk.drew | with_reducible apply Blk.drewN | with_reducible apply Blk.keep0 (hm := by with_reducible assumption) | with_reducible apply Blk.keep (hm := by with_reducible assumption) (hg := by first | omega | exact not_two (by omega) (by omega)) | with_reducible apply Blk.far (hp := by first | omega | (simp; done) | (simp; omega)) | with_reducible apply Blk.set1 | rfl))) hx).mono ?_)
          rintro e w5 ⟨rfl, hbw5⟩
          have hzw5 := hbw5.size
          (try simp at hzw5)
          skip
          skip
          have ht5 := Blk.keep0 ht hbw5
          have hm5 := hm.keep0 hbw5
          have hd5 := Blk.keep0 hd hbw5
          have hkw5 := Blk.keep0 hs hbw5
          go_wp2_with fail
          (with_reducible refine (status_calls t a m 1 (mapOne d) 0 d s prio 0 1 _ _ ht5 hm5 i0 rfl hd5 hkw5).mono ?_)
          rintro e w6 ⟨rfl, hkw6, hbw6⟩
          have hzw6 := hbw6.size
          (try simp at hzw6)
          have ckw6 := hkw6.cell; have fkw6 := hkw6.frozen; have lkw6 := hkw6.lt
          skip
          skip
          have ht6 := Blk.keep ht5 hbw6 (by omega)
          have hm6 := hm5.keep hbw6 (by omega)
          have hd6 := Blk.keep hd5 hbw6 (by omega)
          go_wp2_with fail
          (with_reducible refine (raise_ok t a m 1 (mapOne d) 0 d s prio 0 _ _ ht6 hm6 i0 rfl hd6 hkw6 (by omega)).mono ?_)
          rintro e w7 ⟨rfl, hs7, hd7, hm7⟩
          have ht7 := Blk.keep ht6 hm7 (by omega)
          have hp7 := hm6.keep hm7 (by omega)
          go_wp2
          go_roundw
          case rel => exact ⟨k + 1, 1, _, _, rfl, by go_num, by omega, by decide, ht7, hp7, hd7, hs7, (by repeat (first | with_reducible exact Mod.refl _ _ | with_reducible assumption | with_reducible refine Mod.alloc ?_ _ | with_reducible refine Mod.drew ?_ | with_reducible refine Mod.drewN ?_ _ | with_reducible refine Mod.setCell ?_ (by first | exact .inl rfl | (left; (try unfold from_); show _ ≤ _; first | omega | (simp; done) | (simp; omega)) | (right; first | omega | (simp; done) | (simp; omega))) _ | with_reducible refine Mod.call0 ?_ (by with_reducible assumption) | with_reducible refine Mod.call ?_ (by with_reducible assumption) (by first | (rintro _ rfl; first | exact .inl rfl | (right; (first | omega | (simp; done) | (simp; omega)))) | (rintro _ (rfl | rfl) <;> (right; (first | omega | (simp; done) | (simp; omega)))))))⟩
          case measure => simp [intOf] <;> omega
      · rcases hxc with rfl | rfl | hx
        · go_wp2_with fail
          (with_reducible refine (turn_no t a m 1 (mapOne d) 0 2 d s prio 0 2 acc _ (by exact (by repeat (first | with_reducible assumption | with_reducible apply Blk.new | with_reducible exact Blk.newAt (by first | rfl | (simp; done) | (simp; omega)) | with_reducible apply Blk.alloc | with_reducible apply Blk.drew | with_reducible apply Blk.drewN | with_reducible apply Blk.keep0 (hm := by with_reducible assumption) | with_reducible apply Blk.keep (hm := by with_reducible assumption) (hg := by first | omega | exact not_two (by omega) (by omega)) | with_reducible apply Blk.far (hp := by first | omega | (simp; done) | (simp; omega)) | with_reducible apply Blk.set1 | rfl))) hm i0 rfl hd hs (by decide) (by decide)).mono ?_)
          rintro e w5 ⟨rfl, hkw5, hbw5⟩
          have hzw5 := hbw5.size
          (try simp at hzw5)
          have ckw5 := hkw5.cell; have fkw5 := hkw5.frozen; have lkw5 := hkw5.lt
          skip
          skip
          have ht5 := Blk.keep ht hbw5 (by omega)
          have hm5 := hm.keep hbw5 (by omega)
          have hd5 := Blk.keep hd hbw5 (by omega)
          go_wp2_with fail
          (with_reducible refine (status_calls t a m 1 (mapOne d) 0 d s prio 0 2 _ _ ht5 hm5 i0 rfl hd5 hkw5).mono ?_)
          rintro e w6 ⟨rfl, hkw6, hbw6⟩
          have hzw6 := hbw6.size
          (try simp at hzw6)
          have ckw6 := hkw6.cell; have fkw6 := hkw6.frozen; have lkw6 := hkw6.lt
          skip
          skip
          have ht6 := Blk.keep ht5 hbw6 (by omega)
          have hm6 := hm5.keep hbw6 (by omega)
          have hd6 := Blk.keep hd5 hbw6 (by omega)
          go_wp2_with fail
          (with_reducible refine (raise_no t a m 1 (mapOne d) 0 d s prio 0 2 _ _ ht6 hm6 i0 rfl hd6 hkw6 (by omega) (by decide)).mono ?_)
          rintro e w7 ⟨rfl, hs7, hm7⟩
          have ht7 := Blk.keep ht6 hm7 (by omega)
          have hp7 := hm6.keep hm7 (by omega)
          have hd7 := Blk.keep hd6 hm7 (by omega)
          go_wp2
          go_roundw
          case rel => exact ⟨k + 1, 2, _, _, rfl, by go_num, by omega, by decide, ht7, hp7, hd7, hs7, (by repeat (first | with_reducible exact Mod.refl _ _ | with_reducible assumption | with_reducible refine Mod.alloc ?_ _ | with_reducible refine Mod.drew ?_ | with_reducible refine Mod.drewN ?_ _ | with_reducible refine Mod.setCell ?_ (by first | exact .inl rfl | (left; (try unfold from_); show _ ≤ _; first | omega | (simp; done) | (simp; omega)) | (right; first | omega | (simp; done) | (simp; omega))) _ | with_reducible refine Mod.call0 ?_ (by with_reducible assumption) | with_reducible refine Mod.call ?_ (by with_reducible assumption) (by first | (rintro _ rfl; first | exact .inl rfl | (right; (first | omega | (simp; done) | (simp; omega)))) | (rintro _ (rfl | rfl) <;> (right; (first | omega | (simp; done) | (simp; omega)))))))⟩
          case measure => simp [intOf] <;> omega
        · go_wp2_with fail
          (with_reducible refine (turn_no t a m 1 (mapOne d) 0 3 d s prio 0 2 acc _ (by exact (by repeat (first | with_reducible assumption | with_reducible apply Blk.new | with_reducible exact Blk.newAt (by first | rfl | (simp; done) | (simp; omega)) | with_reducible apply Blk.alloc | with_reducible apply Blk.drew | with_reducible apply Blk.drewN | with_reducible apply Blk.keep0 (hm := by with_reducible assumption) | with_reducible apply Blk.keep (hm := by with_reducible assumption) (hg := by first | omega | exact not_two (by omega) (by omega)) | with_reducible apply Blk.far (hp := by first | omega | (simp; done) | (simp; omega)) | with_reducible apply Blk.set1 | rfl))) hm i0 rfl hd hs (by decide) (by decide)).mono ?_)
          rintro e w5 ⟨rfl, hkw5, hbw5⟩
          have hzw5 := hbw5.size
          (try simp at hzw5)
          have ckw5 := hkw5.cell; have fkw5 := hkw5.frozen; have lkw5 := hkw5.lt
          skip
          skip
          have ht5 := Blk.keep ht hbw5 (by omega)
          have hm5 := hm.keep hbw5 (by omega)
          have hd5 := Blk.keep hd hbw5 (by omega)
          go_wp2_with fail
          (with_reducible refine (status_calls t a m 1 (mapOne d) 0 d s prio 0 2 _ _ ht5 hm5 i0 rfl hd5 hkw5).mono ?_)
          rintro e w6 ⟨rfl, hkw6, hbw6⟩
          have hzw6 := hbw6.size
          (try simp at hzw6)
          have ckw6 := hkw6.cell; have fkw6 := hkw6.frozen; have lkw6 := hkw6.lt
          skip
          skip
          have ht6 := Blk.keep ht5 hbw6 (by omega)
          have hm6 := hm5.keep hbw6 (by omega)
          have hd6 := Blk.keep hd5 hbw6 (by omega)
          go_wp2_with fail
          (with_reducible refine (raise_no t a m 1 (mapOne d) 0 d s prio 0 2 _ _ ht6 hm6 i0 rfl hd6 hkw6 (by omega) (by decide)).mono ?_)
          rintro e w7 ⟨rfl, hs7, hm7⟩
          have ht7 := Blk.keep ht6 hm7 (by omega)
          have hp7 := hm6.keep hm7 (by omega)
          have hd7 := Blk.keep hd6 hm7 (by omega)
          go_wp2
          go_roundw
          case rel => exact ⟨k + 1, 2, _, _, rfl, by go_num, by omega, by decide, ht7, hp7, hd7, hs7, (by repeat (first | with_reducible exact Mod.refl _ _ | with_reducible assumption | with_reducible refine Mod.alloc ?_ _ | with_reducible refine Mod.drew ?_ | with_reducible refine Mod.drewN ?_ _ | with_reducible refine Mod.setCell ?_ (by first | exact .inl rfl | (left; (try unfold from_); show _ ≤ _; first | omega | (simp; done) | (simp; omega)) | (right; first | omega | (simp; done) | (simp; omega))) _ | with_reducible refine Mod.call0 ?_ (by with_reducible assumption) | with_reducible refine Mod.call ?_ (by with_reducible assumption) (by first | (rintro _ rfl; first | exact .inl rfl | (right; (first | omega | (simp; done) | (simp; omega)))) | (rintro _ (rfl | rfl) <;> (right; (first | omega | (simp; done) | (simp; omega)))))))⟩
          case measure => simp [intOf] <;> omega
        · have q2 : (x == 2) = false := beq_eq_false_iff_ne.2 hx.1
          have q3 : (x == 3) = false := beq_eq_false_iff_ne.2 hx.2
          go_wp2_with fail
          (with_reducible refine (turn_bad t 0 x a m _ (by exact (by repeat (first | with_reducible assumption | with_reducible apply Blk.new | with_reducible exact Blk.newAt (by first | rfl | (simp; done) | (simp; omega)) | with_reducible apply Blk.alloc | with_reducible apply Blk.drew | with_reducible apply Blk.drewN | with_reducible apply Blk.keep0 (hm := by with_reducible assumption) | with_reducible apply Blk.keep (hm := by with_reducible assumption) (hg := by first | omega | exact not_two (by omega) (by omega)) | with_reducible apply Blk.far (hp := by first | omega | (simp; done) | (simp; omega)) | with_reducible apply Blk.set1 | rfl))) hx).mono ?_)
          rintro e w5 ⟨rfl, hbw5⟩
          have hzw5 := hbw5.size
          (try simp at hzw5)
          skip
          skip
          have ht5 := Blk.keep0 ht hbw5
          have hm5 := hm.keep0 hbw5
          have hd5 := Blk.keep0 hd hbw5
          have hkw5 := Blk.keep0 hs hbw5
          go_wp2_with fail
          (with_reducible refine (status_calls t a m 1 (mapOne d) 0 d s prio 0 2 _ _ ht5 hm5 i0 rfl hd5 hkw5).mono ?_)
          rintro e w6 ⟨rfl, hkw6, hbw6⟩
          have hzw6 := hbw6.size
          (try simp at hzw6)
          have ckw6 := hkw6.cell; have fkw6 := hkw6.frozen; have lkw6 := hkw6.lt
          skip
          skip
          have ht6 := Blk.keep ht5 hbw6 (by omega)
          have hm6 := hm5.keep hbw6 (by omega)
          have hd6 := Blk.keep hd5 hbw6 (by omega)
          go_wp2_with fail
          (with_reducible refine (raise_no t a m 1 (mapOne d) 0 d s prio 0 2 _ _ ht6 hm6 i0 rfl hd6 hkw6 (by omega) (by decide)).mono ?_)
          rintro e w7 ⟨rfl, hs7, hm7⟩
          have ht7 := Blk.keep ht6 hm7 (by omega)
          have hp7 := hm6.keep hm7 (by omega)
          have hd7 := Blk.keep hd6 hm7 (by omega)
          go_wp2
          go_roundw
          case rel => exact ⟨k + 1, 2, _, _, rfl, by go_num, by omega, by decide, ht7, hp7, hd7, hs7, (by repeat (first | with_reducible exact Mod.refl _ _ | with_reducible assumption | with_reducible refine Mod.alloc ?_ _ | with_reducible refine Mod.drew ?_ | with_reducible refine Mod.drewN ?_ _ | with_reducible refine Mod.setCell ?_ (by first | exact .inl rfl | (left; (try unfold from_); show _ ≤ _; first | omega | (simp; done) | (simp; omega)) | (right; first | omega | (simp; done) | (simp; omega))) _ | with_reducible refine Mod.call0 ?_ (by with_reducible assumption) | with_reducible refine Mod.call ?_ (by with_reducible assumption) (by first | (rintro _ rfl; first | exact .inl rfl | (right; (first | omega | (simp; done) | (simp; omega)))) | (rintro _ (rfl | rfl) <;> (right; (first | omega | (simp; done) | (simp; omega)))))))⟩
          case measure => simp [intOf] <;> omega
      · rcases hxc with rfl | rfl | hx
        · go_wp2_with fail
          (with_reducible refine (turn_no t a m 1 (mapOne d) 0 2 d s prio 0 3 acc _ (by exact (by repeat (first | with_reducible assumption | with_reducible apply Blk.new | with_reducible exact Blk.newAt (by first | rfl | (simp; done) | (simp; omega)) | with_reducible apply Blk.alloc | with_reducible apply Blk.drew | with_reducible apply Blk.drewN | with_reducible apply Blk.keep0 (hm := by with_reducible assumption) | with_reducible apply Blk.keep (hm := by with_reducible assumption) (hg := by first | omega | exact not_two (by omega) (by omega)) | with_reducible apply Blk.far (hp := by first | omega | (simp; done) | (simp; omega)) | with_reducible apply Blk.set1 | rfl))) hm i0 rfl hd hs (by decide) (by decide)).mono ?_)
          rintro e w5 ⟨rfl, hkw5, hbw5⟩
          have hzw5 := hbw5.size
          (try simp at hzw5)
          have ckw5 := hkw5.cell; have fkw5 := hkw5.frozen; have lkw5 := hkw5.lt
          skip
          skip
          have ht5 := Blk.keep ht hbw5 (by omega)
          have hm5 := hm.keep hbw5 (by omega)
          have hd5 := Blk.keep hd hbw5 (by omega)
          go_wp2_with fail
          (with_reducible refine (status_calls t a m 1 (mapOne d) 0 d s prio 0 3 _ _ ht5 hm5 i0 rfl hd5 hkw5).mono ?_)
          rintro e w6 ⟨rfl, hkw6, hbw6⟩
          have hzw6 := hbw6.size
          (try simp at hzw6)
          have ckw6 := hkw6.cell; have fkw6 := hkw6.frozen; have lkw6 := hkw6.lt
          skip
          skip
          have ht6 := Blk.keep ht5 hbw6 (by omega)
          have hm6 := hm5.keep hbw6 (by omega)
          have hd6 := Blk.keep hd5 hbw6 (by omega)
          go_wp2_with fail
          (with_reducible refine (raise_no t a m 1 (mapOne d) 0 d s prio 0 3 _ _ ht6 hm6 i0 rfl hd6 hkw6 (by omega) (by decide)).mono ?_)
          rintro e w7 ⟨rfl, hs7, hm7⟩
          have ht7 := Blk.keep ht6 hm7 (by omega)
          have hp7 := hm6.keep hm7 (by omega)
          have hd7 := Blk.keep hd6 hm7 (by omega)
          go_wp2
          go_roundw
          case rel => exact ⟨k + 1, 3, _, _, rfl, by go_num, by omega, by decide, ht7, hp7, hd7, hs7, (by repeat (first | with_reducible exact Mod.refl _ _ | with_reducible assumption | with_reducible refine Mod.alloc ?_ _ | with_reducible refine Mod.drew ?_ | with_reducible refine Mod.drewN ?_ _ | with_reducible refine Mod.setCell ?_ (by first | exact .inl rfl | (left; (try unfold from_); show _ ≤ _; first | omega | (simp; done) | (simp; omega)) | (right; first | omega | (simp; done) | (simp; omega))) _ | with_reducible refine Mod.call0 ?_ (by with_reducible assumption) | with_reducible refine Mod.call ?_ (by with_reducible assumption) (by first | (rintro _ rfl; first | exact .inl rfl | (right; (first | omega | (simp; done) | (simp; omega)))) | (rintro _ (rfl | rfl) <;> (right; (first | omega | (simp; done) | (simp; omega)))))))⟩
          case measure => simp [intOf] <;> omega
        · go_wp2_with fail
          (with_reducible refine (turn_no t a m 1 (mapOne d) 0 3 d s prio 0 3 acc _ (by exact (by repeat (first | with_reducible assumption | with_reducible apply Blk.new | with_reducible exact Blk.newAt (by first | rfl | (simp; done) | (simp; omega)) | with_reducible apply Blk.alloc | with_reducible apply Blk.drew | with_reducible apply Blk.drewN | with_reducible apply Blk.keep0 (hm := by with_reducible assumption) | with_reducible apply Blk.keep (hm := by with_reducible assumption) (hg := by first | omega | exact not_two (by omega) (by omega)) | with_reducible apply Blk.far (hp := by first | omega | (simp; done) | (simp; omega)) | with_reducible apply Blk.set1 | rfl))) hm i0 rfl hd hs (by decide) (by decide)).mono ?_)
          rintro e w5 ⟨rfl, hkw5, hbw5⟩
          have hzw5 := hbw5.size
          (try simp at hzw5)
          have ckw5 := hkw5.cell; have fkw5 := hkw5.frozen; have lkw5 := hkw5.lt
          skip
          skip
          have ht5 := Blk.keep ht hbw5 (by omega)
          have hm5 := hm.keep hbw5 (by omega)
          have hd5 := Blk.keep hd hbw5 (by omega)
          go_wp2_with fail
          (with_reducible refine (status_calls t a m 1 (mapOne d) 0 d s prio 0 3 _ _ ht5 hm5 i0 rfl hd5 hkw5).mono ?_)
          rintro e w6 ⟨rfl, hkw6, hbw6⟩
          have hzw6 := hbw6.size
          (try simp at hzw6)
          have ckw6 := hkw6.cell; have fkw6 := hkw6.frozen; have lkw6 := hkw6.lt
          skip
          skip
          have ht6 := Blk.keep ht5 hbw6 (by omega)
          have hm6 := hm5.keep hbw6 (by omega)
          have hd6 := Blk.keep hd5 hbw6 (by omega)
          go_wp2_with fail
          (with_reducible refine (raise_no t a m 1 (mapOne d) 0 d s prio 0 3 _ _ ht6 hm6 i0 rfl hd6 hkw6 (by omega) (by decide)).mono ?_)
          rintro e w7 ⟨rfl, hs7, hm7⟩
          have ht7 := Blk.keep ht6 hm7 (by omega)
          have hp7 := hm6.keep hm7 (by omega)
          have hd7 := Blk.keep hd6 hm7 (by omega)
          go_wp2
          go_roundw
          case rel => exact ⟨k + 1, 3, _, _, rfl, by go_num, by omega, by decide, ht7, hp7, hd7, hs7, (by repeat (first | with_reducible exact Mod.refl _ _ | with_reducible assumption | with_reducible refine Mod.alloc ?_ _ | with_reducible refine Mod.drew ?_ | with_reducible refine Mod.drewN ?_ _ | with_reducible refine Mod.setCell ?_ (by first | exact .inl rfl | (left; (try unfold from_); show _ ≤ _; first | omega | (simp; done) | (simp; omega)) | (right; first | omega | (simp; done) | (simp; omega))) _ | with_reducible refine Mod.call0 ?_ (by with_reducible assumption) | with_reducible refine Mod.call ?_ (by with_reducible assumption) (by first | (rintro _ rfl; first | exact .inl rfl | (right; (first | omega | (simp; done) | (simp; omega)))) | (rintro _ (rfl | rfl) <;> (right; (first | omega | (simp; done) | (simp; omega)))))))⟩
          case measure => simp [intOf] <;> omega
        · have q2 : (x == 2) = false := beq_eq_false_iff_ne.2 hx.1
          have q3 : (x == 3) = false := beq_eq_false_iff_ne.2 hx.2
          go_wp2_with fail
          (with_reducible refine (turn_bad t 0 x a m _ (by exact (by repeat (first | with_reducible assumption | with_reducible apply Blk.new | with_reducible exact Blk.newAt (by first | rfl | (simp; done) | (simp; omega)) | with_reducible apply Blk.alloc | with_reducible apply Blk.drew | with_reducible apply Blk.drewN | with_reducible apply Blk.keep0 (hm := by with_reducible assumption) | with_reducible apply Blk.keep (hm := by with_reducible assumption) (hg := by first | omega | exact not_two (by omega) (by omega)) | with_reducible apply Blk.far (hp := by first | omega | (simp; done) | (simp; omega)) | with_reducible apply Blk.set1 | rfl))) hx).mono ?_)
          rintro e w5 ⟨rfl, hbw5⟩
          have hzw5 := hbw5.size
          (try simp at hzw5)
          skip
          skip
          have ht5 := Blk.keep0 ht hbw5
          have hm5 := hm.keep0 hbw5
          have hd5 := Blk.keep0 hd hbw5
          have hkw5 := Blk.keep0 hs hbw5
          go_wp2_with fail
          (with_reducible refine (status_calls t a m 1 (mapOne d) 0 d s prio 0 3 _ _ ht5 hm5 i0 rfl hd5 hkw5).mono ?_)
          rintro e w6 ⟨rfl, hkw6, hbw6⟩
          have hzw6 := hbw6.size
          (try simp at hzw6)
          have ckw6 := hkw6.cell; have fkw6 := hkw6.frozen; have lkw6 := hkw6.lt
          skip
          skip
          have ht6 := Blk.keep ht5 hbw6 (by omega)
          have hm6 := hm5.keep hbw6 (by omega)
          have hd6 := Blk.keep hd5 hbw6 (by omega)
          go_wp2_with fail
          (with_reducible refine (raise_no t a m 1 (mapOne d) 0 d s prio 0 3 _ _ ht6 hm6 i0 rfl hd6 hkw6 (by omega) (by decide)).mono ?_)
          rintro e w7 ⟨rfl, hs7, hm7⟩
          have ht7 := Blk.keep ht6 hm7 (by omega)
          have hp7 := hm6.keep hm7 (by omega)
          have hd7 := Blk.keep hd6 hm7 (by omega)
          go_wp2
          go_roundw
          case rel => exact ⟨k + 1, 3, _, _, rfl, by go_num, by omega, by decide, ht7, hp7, hd7, hs7, (by repeat (first | with_reducible exact Mod.refl _ _ | with_reducible assumption | with_reducible refine Mod.alloc ?_ _ | with_reducible refine Mod.drew ?_ | with_reducible refine Mod.drewN ?_ _ | with_reducible refine Mod.setCell ?_ (by first | exact .inl rfl | (left; (try unfold from_); show _ ≤ _; first | omega | (simp; done) | (simp; omega)) | (right; first | omega | (simp; done) | (simp; omega))) _ | with_reducible refine Mod.call0 ?_ (by with_reducible assumption) | with_reducible refine Mod.call ?_ (by with_reducible assumption) (by first | (rintro _ rfl; first | exact .inl rfl | (right; (first | omega | (simp; done) | (simp; omega)))) | (rintro _ (rfl | rfl) <;> (right; (first | omega | (simp; done) | (simp; omega)))))))⟩
          case measure => simp [intOf] <;> omega
    · go_wp2
      go_ret
      exact ⟨rfl, (by repeat (first | with_reducible exact Mod.refl _ _ | with_reducible assumption | with_reducible refine Mod.alloc ?_ _ | with_reducible refine Mod.drew ?_ | with_reducible refine Mod.drewN ?_ _ | with_reducible refine Mod.setCell ?_ (by first | exact .inl rfl | (left; (try unfold from_); show _ ≤ _; first | omega | (simp; done) | (simp; omega)) | (right; first | omega | (simp; done) | (simp; omega))) _ | with_reducible refine Mod.call0 ?_ (by with_reducible assumption) | with_reducible refine Mod.call ?_ (by with_reducible assumption) (by first | (rintro _ rfl; first | exact .inl rfl | (right; (first | omega | (simp; done) | (simp; omega)))) | (rintro _ (rfl | rfl) <;> (right; (first | omega | (simp; done) | (simp; omega)))))))⟩
end Go.Proofs.Ytelammmgcfmlbaa
