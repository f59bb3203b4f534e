/- What the functions of package desc do. -/
import Derived.Test.YtanmibdnnjfpbaaMapPtr
import Derived.Test.YtanmibdnnjfpbaaArenarec
import Derived.Test.YtanmibdnnjfpbaaWord
import Derived.Deep.RegionLaw
import Derived.StillTailTactics
namespace Go.Proofs.Ytanmibdnnjfpbaa
open Go.RowKit

theorem step_pmap {ops : Array Oper} {o : Oper} {a : Act} {w : World} {K : Act → World → Prop} {Q : Exit → Act → World → Prop} {E : Prop} (hgd : o.guard = none) (m x v : Operand)
    (hop : o.op = Op.mapUpdate 72 m x v) (b n : Nat) (M : Int → Option Nat) (hm : a.eval m = .map (some b)) (h : IsPMap w b n M) (i : Int) (p : Nat) (hx : a.eval x = .int .i64 i) (hv : a.eval v = .pointer (some ⟨p, 0, none⟩)) (hi : I64 i) (hn : n < maxLen)
    (hK : ∀ w', IsPMap w' b (n + 1) (fun k => if k = i then some p else M k) → Mod (· = b) w w' → K (a.put o.dst undef) w') :
    if Region.wanted o (yielded ops a.tmps) = true then Oper.wp Try.prog o a w K Q else E := by
  have hw : Region.wanted o (yielded ops a.tmps) = true := by simp [Region.wanted, hgd]
  rw [if_pos hw]
  obtain ⟨w', hrun, r1, r2⟩ := h.put i p hi hn
  unfold Oper.wp
  simp [execOp, hop, hm, hx, hv, hrun, Result.andThen]
  exact hK w' r1 r2

abbrev IsTab (w : World) (t a m : Nat) : Prop := Blk w t 74 #[.pointer (some ⟨a, 0, none⟩), .map (some m)]
abbrev IsWds (w : World) (d s : Nat) (prio waiting : Int) : Prop := Blk w d 78 #[.pointer (some ⟨s, 0, none⟩), .int .i64 prio, .int .i64 waiting]

theorem dnew_nil (w : World) :
    Calls Try.prog 22 #[.pointer none] w fun e w' => e = .returned (.tuple #[.pointer none, .int .i64 6]) ∧ Mod nowhere w w' := by
  go_enter Try.func22, Try.ntmps22
  go_wp2
  go_ret2
  exact ⟨rfl, (by repeat (first | with_reducible exact Mod.refl _ _ | with_reducible assumption | with_reducible refine Mod.alloc ?_ _ | with_reducible refine Mod.drew ?_ | with_reducible refine Mod.drewN ?_ _ | with_reducible refine Mod.setCell ?_ (by first | exact .inl rfl | (left; (try unfold from_); show _ ≤ _; first | omega | (simp; done) | (simp; omega)) | (right; first | omega | (simp; done) | (simp; omega))) _ | with_reducible refine Mod.call0 ?_ (by with_reducible assumption) | with_reducible refine Mod.call ?_ (by with_reducible assumption) (by first | (rintro _ rfl; first | exact .inl rfl | (right; (first | omega | (simp; done) | (simp; omega)))) | (rintro _ (rfl | rfl) <;> (right; (first | omega | (simp; done) | (simp; omega)))))))⟩
set_option maxHeartbeats 400000 in
theorem dnew_calls (a : Nat) (w : World) :
    Calls Try.prog 22 #[.pointer (some ⟨a, 0, none⟩)] w fun e w' => e = .returned (.tuple #[.pointer (some ⟨w.heap.size + 1, 0, none⟩), .int .i64 0]) ∧ IsTab w' (w.heap.size + 1) a w.heap.size ∧ IsPMap w' w.heap.size 0 (fun _ => none) ∧ Mod nowhere w w' := by
  have hmm := @run_makeMap Try.prog
  have h0 := IsPMap.made w
  go_enter Try.func22, Try.ntmps22
  go_wp2
  go_ret2
  exact ⟨rfl, (by repeat (first | with_reducible assumption | with_reducible apply Blk.new | with_reducible exact Blk.newAt (by first | rfl | (simp; done) | (simp; omega)) | with_reducible apply Blk.alloc | with_reducible apply Blk.drew | with_reducible apply Blk.drewN | with_reducible apply Blk.keep0 (hm := by with_reducible assumption) | with_reducible apply Blk.keep (hm := by with_reducible assumption) (hg := by first | omega | exact not_two (by omega) (by omega)) | with_reducible apply Blk.far (hp := by first | omega | (simp; done) | (simp; omega)) | with_reducible apply Blk.set1 | rfl)), h0.alloc _, (by repeat (first | with_reducible exact Mod.refl _ _ | with_reducible assumption | with_reducible refine Mod.alloc ?_ _ | with_reducible refine Mod.drew ?_ | with_reducible refine Mod.drewN ?_ _ | with_reducible refine Mod.setCell ?_ (by first | exact .inl rfl | (left; (try unfold from_); show _ ≤ _; first | omega | (simp; done) | (simp; omega)) | (right; first | omega | (simp; done) | (simp; omega))) _ | with_reducible refine Mod.call0 ?_ (by with_reducible assumption) | with_reducible refine Mod.call ?_ (by with_reducible assumption) (by first | (rintro _ rfl; first | exact .inl rfl | (right; (first | omega | (simp; done) | (simp; omega)))) | (rintro _ (rfl | rfl) <;> (right; (first | omega | (simp; done) | (simp; omega)))))))⟩
set_option maxHeartbeats 1000000 in
theorem status_calls (t a m n : Nat) (M : Int → Option Nat) (id : Int) (d s : Nat) (prio waiting st acc : Int) (w : World) (ht : IsTab w t a m) (hm : IsPMap w m n M) (hi : I64 id) (hM : M id = some d) (hd : IsWds w d s prio waiting) (hs : IsWord w s st acc) :
    Calls Try.prog 34 #[.pointer (some ⟨t, 0, none⟩), .int .i64 id] w fun e w' => e = .returned (.int .i64 st) ∧ IsWord w' s st (wrap64 (acc + 1)) ∧ Mod (· = s) w w' := by
  have hlook : ∀ W, Mod nowhere w W → (Instr.lookup 72 (.map (some m)) (.int .i64 id) false).run Try.prog W = .ok (.pointer (some ⟨d, 0, none⟩)) W := by
    intro W hW
    have := (hm.keep0 hW).look id hi
    rwa [hM] at this
  have l1 := hlook (w.alloc (.cells #[.int .i64 0] 3)) ((Mod.refl _ _).alloc _)
  have l_s := hs.lt
  have c_ht := ht.cell; have f_ht := ht.frozen; have l_ht := ht.lt; have c_hd := hd.cell; have f_hd := hd.frozen; have l_hd := hd.lt
  go_enter Try.func34, Try.ntmps34
  go_wp2_with (first | (go_at_call 32; (with_reducible refine (load_calls s st acc _ (by exact (by repeat (first | with_reducible assumption | with_reducible apply Blk.new | with_reducible exact Blk.newAt (by first | rfl | (simp; done) | (simp; omega)) | with_reducible apply Blk.alloc | with_reducible apply Blk.drew | with_reducible apply Blk.drewN | with_reducible apply Blk.keep0 (hm := by with_reducible assumption) | with_reducible apply Blk.keep (hm := by with_reducible assumption) (hg := by first | omega | exact not_two (by omega) (by omega)) | with_reducible apply Blk.far (hp := by first | omega | (simp; done) | (simp; omega)) | with_reducible apply Blk.set1 | rfl)))).mono ?_); rintro e w5 ⟨rfl, hkw5, hbw5⟩; have hzw5 := hbw5.size; (try simp at hzw5); have ckw5 := hkw5.cell; have fkw5 := hkw5.frozen; have lkw5 := hkw5.lt; (try (have ltw50 : w.heap.size < w5.heap.size := (by omega); have lcw50 := fun o => hbw5.cell (b := w.heap.size) o (by first | omega | (simp; done) | (simp; omega)) (by first | omega | (simp; omega)); have lfw50 := fun o => hbw5.frozen (b := w.heap.size) o (by first | omega | (simp; done) | (simp; omega)) (by first | omega | (simp; omega)))); skip) | go_in)
  go_end0
  go_wp2
  go_ret
  exact ⟨rfl, (by repeat (first | with_reducible assumption | with_reducible apply Blk.new | with_reducible exact Blk.newAt (by first | rfl | (simp; done) | (simp; omega)) | with_reducible apply Blk.alloc | with_reducible apply Blk.drew | with_reducible apply Blk.drewN | with_reducible apply Blk.keep0 (hm := by with_reducible assumption) | with_reducible apply Blk.keep (hm := by with_reducible assumption) (hg := by first | omega | exact not_two (by omega) (by omega)) | with_reducible apply Blk.far (hp := by first | omega | (simp; done) | (simp; omega)) | with_reducible apply Blk.set1 | rfl)), (by repeat (first | with_reducible exact Mod.refl _ _ | with_reducible assumption | with_reducible refine Mod.alloc ?_ _ | with_reducible refine Mod.drew ?_ | with_reducible refine Mod.drewN ?_ _ | with_reducible refine Mod.setCell ?_ (by first | exact .inl rfl | (left; (try unfold from_); show _ ≤ _; first | omega | (simp; done) | (simp; omega)) | (right; first | omega | (simp; done) | (simp; omega))) _ | with_reducible refine Mod.call0 ?_ (by with_reducible assumption) | with_reducible refine Mod.call ?_ (by with_reducible assumption) (by first | (rintro _ rfl; first | exact .inl rfl | (right; (first | omega | (simp; done) | (simp; omega)))) | (rintro _ (rfl | rfl) <;> (right; (first | omega | (simp; done) | (simp; omega)))))))⟩
def mn (x y : Int) : Int := if y < x then y else x
theorem run_min5 (ts : Array TypeId) (t : TypeId) (a b c d e : Int) (w : World) : (Builtin.min_ ts t #[.int .i64 a, .int .i64 b, .int .i64 c, .int .i64 d, .int .i64 e]).run Try.prog w = .ok (.int .i64 (mn (mn (mn (mn a b) c) d) e)) w := by
  rfl
theorem mn_pos {x y : Int} (h : 0 ≤ x) (k : 0 ≤ y) : 0 ≤ mn x y := by unfold mn; split <;> omega
def BegPost (w w' : World) (t a r m N n : Nat) (most : Int) (cs new : List Value) (M : Int → Option Nat) (prio : Int) : Prop :=
  PutArn w w' 87 45 9 a r (N + 1) most (cs ++ new) ∧ IsTab w' t a m ∧ ∃ d s acc, IsPMap w' m (n + 1) (fun k => if k = (N : Int) then some d else M k) ∧ IsWds w' d s prio 0 ∧ IsWord w' s 1 acc ∧ w.heap.size ≤ d ∧ w.heap.size ≤ s ∧ d ≠ s
set_option maxRecDepth 100000 in
set_option maxHeartbeats 4000000 in
theorem begin_calls (t a r m N n : Nat) (most : Int) (cs : List Value) (M : Int → Option Nat) (x0 x1 x2 x3 x4 : Int) (w : World) (ht : IsTab w t a m) (hm : IsPMap w m n M) (ha : Arn_rec w a r N most cs) (hN : (N : Int) < most) (h4 : most ≤ 4096) (hn : n ≤ 4096)
    (hd1 : t ≠ a ∧ t ≠ r ∧ t ≠ m ∧ m ≠ a ∧ m ≠ r) (h0 : 0 ≤ x0) (h1 : 0 ≤ x1) (h2 : 0 ≤ x2) (h3 : 0 ≤ x3) (h5 : 0 ≤ x4) :
    Calls Try.prog 13 #[.pointer (some ⟨t, 0, none⟩), .int .i64 x0, .int .i64 x1, .int .i64 x2, .int .i64 x3, .int .i64 x4] w
      fun e w' => e = .returned (.tuple #[.int .i64 N, .int .i64 0]) ∧ BegPost w w' t a r m N n most cs [.int .i64 3, .int .i64 0, .int .i64 0, .int .i64 0, .int .i64 0, .int .i64 x0, .int .i64 x1, .int .i64 x2, .int .i64 x3] M x4 ∧ Mod (fun b => b = a ∨ b = r ∨ b = m) w w' := by
  have hmin := fun ts t w => run_min5 ts t x0 x1 x2 x3 x4 w
  have hq := mn_pos (mn_pos (mn_pos (mn_pos h0 h1) h2) h3) h5
  generalize mn (mn (mn (mn x0 x1) x2) x3) x4 = q at hmin hq
  have l_m := hm.lt
  have l_a := ha.lt
  have c_ht := ht.cell; have f_ht := ht.frozen; have l_ht := ht.lt
  go_enter Try.func13, Try.ntmps13
  go_wp2_with fail
  (with_reducible refine (aput_rec 3 0 0 0 0 x0 x1 x2 x3 a r N most cs _ ha hN h4).mono ?_)
  rintro e w5 ⟨rfl, ⟨r', hr', hne, ha'⟩, hm5⟩
  have hz5 := hm5.size
  have l_5 := ha'.lt
  have ht5 : IsTab w5 t a m := Blk.keep ht hm5 (by omega)
  have hp5 := hm.keep hm5 (by omega)
  have iN : I64 (N : Int) := by unfold I64; omega
  have hn9 : n < maxLen := by unfold maxLen; omega
  clear c_ht f_ht l_ht
  have c_ht5 := ht5.cell; have f_ht5 := ht5.frozen; have l_ht5 := ht5.lt
  go_wp2_with fail
  obtain ⟨w6, hrun, hp6, hm6⟩ := IsPMap.put (w := ((w5.alloc (.cells #[.int .i64 1, .int .i64 0] 91)).alloc (.cells #[.pointer (some ⟨w5.heap.size, 0, none⟩), .int .i64 x4, .int .i64 0] 78)).drew) (((hp5.alloc _).alloc _).drew) (N : Int) (w5.heap.size + 1) iN hn9
  have hz6 := hm6.size
  (try simp at hz6)
  go_region_with ((go_at_call 27; (with_reducible refine (of_calls _ _).mono ?_); rintro e w' ⟨rfl, rfl⟩))
  all_goals
    go_wp2
    go_ret2
    have hs6 : IsWord w6 w5.heap.size 1 0 := (by repeat (first | with_reducible assumption | with_reducible apply Blk.new | with_reducible exact Blk.newAt (by first | rfl | (simp; done) | (simp; omega)) | with_reducible apply Blk.alloc | with_reducible apply Blk.drew | with_reducible apply Blk.drewN | with_reducible apply Blk.keep0 (hm := by with_reducible assumption) | with_reducible apply Blk.keep (hm := by with_reducible assumption) (hg := by first | omega | exact not_two (by omega) (by omega)) | with_reducible apply Blk.far (hp := by first | omega | (simp; done) | (simp; omega)) | with_reducible apply Blk.set1 | rfl))
    have hd6 : IsWds w6 (w5.heap.size + 1) w5.heap.size x4 0 := (by repeat (first | with_reducible assumption | with_reducible apply Blk.new | with_reducible exact Blk.newAt (by first | rfl | (simp; done) | (simp; omega)) | with_reducible apply Blk.alloc | with_reducible apply Blk.drew | with_reducible apply Blk.drewN | with_reducible apply Blk.keep0 (hm := by with_reducible assumption) | with_reducible apply Blk.keep (hm := by with_reducible assumption) (hg := by first | omega | exact not_two (by omega) (by omega)) | with_reducible apply Blk.far (hp := by first | omega | (simp; done) | (simp; omega)) | with_reducible apply Blk.set1 | rfl))
    have hm7 : Mod (fun b => b = a ∨ b = r ∨ b = m) w w6 := ((hm5.mono (T := fun b => b = a ∨ b = r ∨ b = m) (by rintro i (rfl | rfl); exact .inl rfl; exact .inr (.inl rfl))).alloc _ |>.alloc _ |>.drew).call hm6 (by rintro i rfl; exact .inl (.inr (.inr rfl)))
    refine ⟨rfl, ⟨⟨r', hr', hne, ?_⟩, (by repeat (first | with_reducible assumption | with_reducible apply Blk.new | with_reducible exact Blk.newAt (by first | rfl | (simp; done) | (simp; omega)) | with_reducible apply Blk.alloc | with_reducible apply Blk.drew | with_reducible apply Blk.drewN | with_reducible apply Blk.keep0 (hm := by with_reducible assumption) | with_reducible apply Blk.keep (hm := by with_reducible assumption) (hg := by first | omega | exact not_two (by omega) (by omega)) | with_reducible apply Blk.far (hp := by first | omega | (simp; done) | (simp; omega)) | with_reducible apply Blk.set1 | rfl)), w5.heap.size + 1, w5.heap.size, 0, hp6, hd6, hs6, by omega, by omega, by omega⟩, hm7⟩
    exact Own.keep (((Own.alloc (Own.alloc ha' _) _)).drew) hm6 (by omega) (by omega)
end Go.Proofs.Ytanmibdnnjfpbaa
