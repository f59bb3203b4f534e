/- What is asked of one descriptor: Priority, Waiting, Wait, Rec. -/
import Derived.Test.YtelammmgcfmlbaaDesc4
namespace Go.Proofs.Ytelammmgcfmlbaa
open Go.RowKit

set_option maxHeartbeats 1000000 in
theorem priority_calls (t a m n : Nat) (M : Int → Option Nat) (id : Int) (d s : Nat) (prio waiting : Int) (w : World) (ht : IsTab w t a m) (hm : IsPMap w m n M) (hi : I64 id) (hM : M id = some d) (hd : IsWds w d s prio waiting) :
    Calls Try.prog 20 #[.pointer (some ⟨t, 0, none⟩), .int .i64 id] w fun e w' => e = .returned (.int .i64 prio) ∧ Mod nowhere w w' := by
  have hlook : ∀ W, Mod nowhere w W → (Instr.lookup 89 (.map (some m)) (.int .i64 id) false).run Try.prog W = .ok (.pointer (some ⟨d, 0, none⟩)) W := by
    intro W hW
    have := (hm.keep0 hW).look id hi
    rwa [hM] at this
  have l1 := hlook (w.alloc (.cells #[.int .i64 0] 3)) ((Mod.refl _ _).alloc _)
  clear hlook
  have c_ht := ht.cell; have f_ht := ht.frozen; have l_ht := ht.lt; have c_hd := hd.cell; have f_hd := hd.frozen; have l_hd := hd.lt
  go_enter Try.func20, Try.ntmps20
  go_wp2_with go_in
  go_end0
  go_wp2
  go_ret
  exact ⟨rfl, (by repeat (first | with_reducible exact Mod.refl _ _ | with_reducible assumption | with_reducible refine Mod.alloc ?_ _ | with_reducible refine Mod.drew ?_ | with_reducible refine Mod.drewN ?_ _ | with_reducible refine Mod.setCell ?_ (by first | exact .inl rfl | (left; (try unfold from_); show _ ≤ _; first | omega | (simp; done) | (simp; omega)) | (right; first | omega | (simp; done) | (simp; omega))) _ | with_reducible refine Mod.call0 ?_ (by with_reducible assumption) | with_reducible refine Mod.call ?_ (by with_reducible assumption) (by first | (rintro _ rfl; first | exact .inl rfl | (right; (first | omega | (simp; done) | (simp; omega)))) | (rintro _ (rfl | rfl) <;> (right; (first | omega | (simp; done) | (simp; omega)))))))⟩
set_option maxHeartbeats 1000000 in
theorem waiting_calls (t a m n : Nat) (M : Int → Option Nat) (id : Int) (d s : Nat) (prio waiting : Int) (w : World) (ht : IsTab w t a m) (hm : IsPMap w m n M) (hi : I64 id) (hM : M id = some d) (hd : IsWds w d s prio waiting) :
    Calls Try.prog 21 #[.pointer (some ⟨t, 0, none⟩), .int .i64 id] w fun e w' => e = .returned (.bool (decide (0 < waiting))) ∧ Mod nowhere w w' := by
  have hlook : ∀ W, Mod nowhere w W → (Instr.lookup 89 (.map (some m)) (.int .i64 id) false).run Try.prog W = .ok (.pointer (some ⟨d, 0, none⟩)) W := by
    intro W hW
    have := (hm.keep0 hW).look id hi
    rwa [hM] at this
  have l1 := hlook (w.alloc (.cells #[.int .i64 0] 3)) ((Mod.refl _ _).alloc _)
  clear hlook
  have c_ht := ht.cell; have f_ht := ht.frozen; have l_ht := ht.lt; have c_hd := hd.cell; have f_hd := hd.frozen; have l_hd := hd.lt
  go_enter Try.func21, Try.ntmps21
  go_wp2_with go_in
  go_end0
  go_wp2
  go_ret
  exact ⟨rfl, (by repeat (first | with_reducible exact Mod.refl _ _ | with_reducible assumption | with_reducible refine Mod.alloc ?_ _ | with_reducible refine Mod.drew ?_ | with_reducible refine Mod.drewN ?_ _ | with_reducible refine Mod.setCell ?_ (by first | exact .inl rfl | (left; (try unfold from_); show _ ≤ _; first | omega | (simp; done) | (simp; omega)) | (right; first | omega | (simp; done) | (simp; omega))) _ | with_reducible refine Mod.call0 ?_ (by with_reducible assumption) | with_reducible refine Mod.call ?_ (by with_reducible assumption) (by first | (rintro _ rfl; first | exact .inl rfl | (right; (first | omega | (simp; done) | (simp; omega)))) | (rintro _ (rfl | rfl) <;> (right; (first | omega | (simp; done) | (simp; omega)))))))⟩
set_option maxRecDepth 100000 in
set_option maxHeartbeats 4000000 in
theorem wait_on (t a m n : Nat) (M : Int → Option Nat) (id : Int) (d s : Nat) (prio waiting acc : Int) (w : World) (ht : IsTab w t a m) (hm : IsPMap w m n M) (hi : I64 id) (hM : M id = some d) (hd : IsWds w d s prio waiting) (hs : IsWord w s 1 acc) (hne : d ≠ s) :
    Calls Try.prog 18 #[.pointer (some ⟨t, 0, none⟩), .int .i64 id, .bool true] w fun e w' => e = .returned (.int .i64 0) ∧ IsWord w' s 1 (wrap64 (acc + 1)) ∧ IsWds w' d s prio 1 ∧ Mod (two s d) w w' := by
  have hlook : ∀ W, Mod nowhere w W → (Instr.lookup 89 (.map (some m)) (.int .i64 id) false).run Try.prog W = .ok (.pointer (some ⟨d, 0, none⟩)) W := by
    intro W hW
    have := (hm.keep0 hW).look id hi
    rwa [hM] at this
  have l1 := hlook (((w.alloc (.cells #[.bool true] 4)).alloc (.cells #[.func (.func 54) #[] #[.pointer (some ⟨w.heap.size, 0, none⟩)]] 99)).alloc (.cells #[.int .i64 0] 28)) ((((Mod.refl _ _).alloc _).alloc _).alloc _)
  clear hlook
  have l_s := hs.lt
  have c_ht := ht.cell; have f_ht := ht.frozen; have l_ht := ht.lt; have c_hd := hd.cell; have f_hd := hd.frozen; have l_hd := hd.lt
  have ltp1 : t < w.heap.size + 1 := (by omega); have ltp2 : t < w.heap.size + 1 + 1 := (by omega); have ltp3 : t < w.heap.size + 1 + 1 + 1 := (by omega); have ltp4 : t < w.heap.size + 1 + 1 + 1 + 1 := (by omega)
  have ltd1 : d < w.heap.size + 1 := by omega
  have ltd2 : d < w.heap.size + 1 + 1 := by omega
  have ltd3 : d < w.heap.size + 1 + 1 + 1 := by omega
  go_enter Try.func18, Try.ntmps18
  go_wp2_with (first | (go_at_call 51; (with_reducible refine (load_calls s 1 acc _ (by exact (by repeat (first | with_reducible assumption | with_reducible apply Blk.new | with_reducible exact Blk.newAt (by first | rfl | (simp; done) | (simp; omega)) | with_reducible apply Blk.alloc | with_reducible apply Blk.drew | with_reducible apply Blk.drewN | with_reducible apply Blk.keep0 (hm := by with_reducible assumption) | with_reducible apply Blk.keep (hm := by with_reducible assumption) (hg := by first | omega | exact not_two (by omega) (by omega)) | with_reducible apply Blk.far (hp := by first | omega | (simp; done) | (simp; omega)) | with_reducible apply Blk.set1 | rfl)))).mono ?_); rintro e w5 ⟨rfl, hkw5, hbw5⟩; have hzw5 := hbw5.size; (try simp at hzw5); have ckw5 := hkw5.cell; have fkw5 := hkw5.frozen; have lkw5 := hkw5.lt; (try (have ltw50 : w.heap.size < w5.heap.size := (by omega); have lcw50 := fun o => hbw5.cell (b := w.heap.size) o (by first | omega | (simp; done) | (simp; omega)) (by first | omega | (simp; omega)); have lfw50 := fun o => hbw5.frozen (b := w.heap.size) o (by first | omega | (simp; done) | (simp; omega)) (by first | omega | (simp; omega)))); (try (have ltw51 : w.heap.size + 1 < w5.heap.size := (by omega); have lcw51 := fun o => hbw5.cell (b := w.heap.size + 1) o (by first | omega | (simp; done) | (simp; omega)) (by first | omega | (simp; omega)); have lfw51 := fun o => hbw5.frozen (b := w.heap.size + 1) o (by first | omega | (simp; done) | (simp; omega)) (by first | omega | (simp; omega)))); (try (have ltw52 : w.heap.size + 1 + 1 < w5.heap.size := (by omega); have lcw52 := fun o => hbw5.cell (b := w.heap.size + 1 + 1) o (by first | omega | (simp; done) | (simp; omega)) (by first | omega | (simp; omega)); have lfw52 := fun o => hbw5.frozen (b := w.heap.size + 1 + 1) o (by first | omega | (simp; done) | (simp; omega)) (by first | omega | (simp; omega)))); (try (have ltw53 : d < w5.heap.size := (by omega); have lcw53 := fun o => hbw5.cell (b := d) o (by first | omega | (simp; done) | (simp; omega)) (by first | omega | (simp; omega)); have lfw53 := fun o => hbw5.frozen (b := d) o (by first | omega | (simp; done) | (simp; omega)) (by first | omega | (simp; omega)))); skip) | go_in)
  go_end0
  go_wp2
  go_end0
  go_wp2
  go_ret
  exact ⟨rfl, (by repeat (first | with_reducible assumption | with_reducible apply Blk.new | with_reducible exact Blk.newAt (by first | rfl | (simp; done) | (simp; omega)) | with_reducible apply Blk.alloc | with_reducible apply Blk.drew | with_reducible apply Blk.drewN | with_reducible apply Blk.keep0 (hm := by with_reducible assumption) | with_reducible apply Blk.keep (hm := by with_reducible assumption) (hg := by first | omega | exact not_two (by omega) (by omega)) | with_reducible apply Blk.far (hp := by first | omega | (simp; done) | (simp; omega)) | with_reducible apply Blk.set1 | rfl)), (by repeat (first | with_reducible assumption | with_reducible apply Blk.new | with_reducible exact Blk.newAt (by first | rfl | (simp; done) | (simp; omega)) | with_reducible apply Blk.alloc | with_reducible apply Blk.drew | with_reducible apply Blk.drewN | with_reducible apply Blk.keep0 (hm := by with_reducible assumption) | with_reducible apply Blk.keep (hm := by with_reducible assumption) (hg := by first | omega | exact not_two (by omega) (by omega)) | with_reducible apply Blk.far (hp := by first | omega | (simp; done) | (simp; omega)) | with_reducible apply Blk.set1 | rfl)), (((((((Mod.refl (two s d) w).alloc _).alloc _).alloc _).call hbw5 (by rintro i rfl; exact .inl (.inl rfl))).setCell (.inl (.inr rfl)) _)).setCell (.inl (.inr rfl)) _⟩
set_option maxRecDepth 100000 in
set_option maxHeartbeats 4000000 in
theorem rec_calls (x0 x1 x2 x3 x4 x5 x6 x7 x8 : Int) (t a r m n N : Nat) (most : Int) (cs : List Value) (M : Int → Option Nat) (i : Nat) (d s : Nat) (prio waiting : Int) (w : World) (ht : IsTab w t a m) (hm : IsPMap w m n M) (hM : M i = some d) (hd : IsWds w d s prio waiting) (ha : Arn_rec w a r N most cs) (hi : i < N) (hN : N ≤ 4096)
    (h0 : cs[i * 9]? = some (.int .i64 x0)) (h1 : cs[i * 9 + 1]? = some (.int .i64 x1)) (h2 : cs[i * 9 + 2]? = some (.int .i64 x2)) (h3 : cs[i * 9 + 3]? = some (.int .i64 x3)) (h4 : cs[i * 9 + 4]? = some (.int .i64 x4)) (h5 : cs[i * 9 + 5]? = some (.int .i64 x5)) (h6 : cs[i * 9 + 6]? = some (.int .i64 x6)) (h7 : cs[i * 9 + 7]? = some (.int .i64 x7)) (h8 : cs[i * 9 + 8]? = some (.int .i64 x8)) :
    Calls Try.prog 19 #[.pointer (some ⟨t, 0, none⟩), .int .i64 i] w fun e w' => e = .returned (.tuple #[.agg #[.int .i64 x0, .int .i64 x1, .int .i64 x2, .int .i64 x3, .int .i64 x4, .int .i64 x5, .int .i64 x6, .int .i64 x7, .int .i64 x8], .int .i64 0]) ∧ Mod nowhere w w' := by
  have hlook : ∀ W, Mod nowhere w W → (Instr.lookup 89 (.map (some m)) (.int .i64 (i : Int)) false).run Try.prog W = .ok (.pointer (some ⟨d, 0, none⟩)) W := by
    intro W hW
    have := (hm.keep0 hW).look (i : Int) (by unfold I64; omega)
    rwa [hM] at this
  have l1 := hlook (w.alloc (.cells #[.int .i64 0, .int .i64 0, .int .i64 0, .int .i64 0, .int .i64 0, .int .i64 0, .int .i64 0, .int .i64 0, .int .i64 0] 40)) ((Mod.refl _ _).alloc _)
  clear hlook
  have H0 := hide h0
  have H1 := hide h1
  have H2 := hide h2
  have H3 := hide h3
  have H4 := hide h4
  have H5 := hide h5
  have H6 := hide h6
  have H7 := hide h7
  have H8 := hide h8
  clear h0 h1 h2 h3 h4 h5 h6 h7 h8
  have c_ht := ht.cell; have f_ht := ht.frozen; have l_ht := ht.lt; have c_hd := hd.cell; have f_hd := hd.frozen; have l_hd := hd.lt
  go_enter Try.func19, Try.ntmps19
  go_wp2_with (first | (go_at_call 47; go_in) | (go_at_call 55; go_in))
  go_end0
  go_wp2_with fail
  (with_reducible refine (aat_rec x0 x1 x2 x3 x4 x5 x6 x7 x8 a r N most cs _ i rfl _ (by exact (by repeat (first | with_reducible assumption | with_reducible apply Own.drew | with_reducible apply Own.drewN | with_reducible apply Own.alloc | with_reducible apply Own.keep0 (hm := by with_reducible assumption) | with_reducible apply Own.keep (hm := by with_reducible assumption) (hg := by first | omega | exact not_two (by omega) (by omega)) (hr := by first | omega | exact not_two (by omega) (by omega)) | with_reducible apply Own.far (hg := by first | omega | (simp; omega)) (hr := by first | omega | (simp; omega))))) hi hN H0.out H1.out H2.out H3.out H4.out H5.out H6.out H7.out H8.out).mono ?_)
  rintro e w5 ⟨rfl, hbw5⟩
  have hzw5 := hbw5.size
  (try simp at hzw5)
  (try (have ltw50 : w.heap.size < w5.heap.size := (by omega); have lcw50 := fun o => hbw5.cell (b := w.heap.size) o (by first | omega | (simp; done) | (simp; omega)) (id); have lfw50 := fun o => hbw5.frozen (b := w.heap.size) o (by first | omega | (simp; done) | (simp; omega)) (id)))
  skip
  go_wp2
  exact bodyPost_ret (v := .tuple #[.agg #[.int .i64 x0, .int .i64 x1, .int .i64 x2, .int .i64 x3, .int .i64 x4, .int .i64 x5, .int .i64 x6, .int .i64 x7, .int .i64 x8], .int .i64 0]) (by simp [results, Try.results19, go_sem, *]) rfl ⟨rfl, (by repeat (first | with_reducible exact Mod.refl _ _ | with_reducible assumption | with_reducible refine Mod.alloc ?_ _ | with_reducible refine Mod.drew ?_ | with_reducible refine Mod.drewN ?_ _ | with_reducible refine Mod.setCell ?_ (by first | exact .inl rfl | (left; (try unfold from_); show _ ≤ _; first | omega | (simp; done) | (simp; omega)) | (right; first | omega | (simp; done) | (simp; omega))) _ | with_reducible refine Mod.call0 ?_ (by with_reducible assumption) | with_reducible refine Mod.call ?_ (by with_reducible assumption) (by first | (rintro _ rfl; first | exact .inl rfl | (right; (first | omega | (simp; done) | (simp; omega)))) | (rintro _ (rfl | rfl) <;> (right; (first | omega | (simp; done) | (simp; omega)))))))⟩
end Go.Proofs.Ytelammmgcfmlbaa
