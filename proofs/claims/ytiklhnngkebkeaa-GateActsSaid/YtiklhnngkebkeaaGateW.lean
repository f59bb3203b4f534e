/- What is done by what is seen of the senior: What; the document's example of layer 10, run; no gate. -/
import Derived.Test.YtiklhnngkebkeaaGate2
import Derived.Laws.StructEq
import Derived.Outline
import Derived.Deep.DeepCutAuto
namespace Go.Proofs.Ytiklhnngkebkeaa
open Go.RowKit

abbrev stV (a b c d e : Int) : Value := .agg #[.int .i64 a, .int .i64 b, .int .i64 c, .int .i64 d, .int .i64 e]
set_option maxHeartbeats 1000000 in
theorem what_own (a b c d e xs xt xp stamp wait : Int) (tr : Bool) (w : World) (h : xs = stamp) :
    Calls Try.prog 10 #[stV a b c d e, sightV true xs xt xp, .int .i64 stamp, .int .i64 wait, .bool tr] w
     fun en w' => en = .returned (.tuple #[.int .i64 2, stV a b c d e]) ∧ Mod nowhere w w' := by
  subst h
  go_enter Try.func10, Try.ntmps10
  go_wp2
  go_region
  all_goals go_wp2
  all_goals exact bodyPost_ret (v := .tuple #[.int .i64 2, stV a b c d e]) (by simp [results, Try.results10, go_sem]) rfl ⟨rfl, (by repeat (first | with_reducible exact Mod.refl _ _ | with_reducible assumption | with_reducible refine Mod.alloc ?_ _ | with_reducible refine Mod.drew ?_ | with_reducible refine Mod.drewN ?_ _ | with_reducible refine Mod.setCell ?_ (by first | exact .inl rfl | (left; (try unfold from_); show _ ≤ _; first | omega | (simp; done) | (simp; omega)) | (right; first | omega | (simp; done) | (simp; omega))) _ | with_reducible refine Mod.call0 ?_ (by with_reducible assumption) | with_reducible refine Mod.call ?_ (by with_reducible assumption) (by first | (rintro _ rfl; first | exact .inl rfl | (right; (first | omega | (simp; done) | (simp; omega)))) | (rintro _ (rfl | rfl) <;> (right; (first | omega | (simp; done) | (simp; omega)))))))⟩
set_option maxHeartbeats 1000000 in
theorem what_claim (a b c d e xs xt xp stamp wait : Int) (some : Bool) (w : World) (h : some = false ∨ stamp < xs) :
    Calls Try.prog 10 #[stV a b c d e, sightV some xs xt xp, .int .i64 stamp, .int .i64 wait, .bool true] w
     fun en w' => en = .returned (.tuple #[.int .i64 1, stV a b c d e]) ∧ Mod nowhere w w' := by
  cases some
  · clear h
    go_enter Try.func10, Try.ntmps10
    go_wp2
    go_region
    all_goals go_wp2
    all_goals exact bodyPost_ret (v := .tuple #[.int .i64 1, stV a b c d e]) (by simp [results, Try.results10, go_sem]) rfl ⟨rfl, (by repeat (first | with_reducible exact Mod.refl _ _ | with_reducible assumption | with_reducible refine Mod.alloc ?_ _ | with_reducible refine Mod.drew ?_ | with_reducible refine Mod.drewN ?_ _ | with_reducible refine Mod.setCell ?_ (by first | exact .inl rfl | (left; (try unfold from_); show _ ≤ _; first | omega | (simp; done) | (simp; omega)) | (right; first | omega | (simp; done) | (simp; omega))) _ | with_reducible refine Mod.call0 ?_ (by with_reducible assumption) | with_reducible refine Mod.call ?_ (by with_reducible assumption) (by first | (rintro _ rfl; first | exact .inl rfl | (right; (first | omega | (simp; done) | (simp; omega)))) | (rintro _ (rfl | rfl) <;> (right; (first | omega | (simp; done) | (simp; omega)))))))⟩
  · have h' : stamp < xs := by simpa using h
    have q1 : (xs == stamp) = false := beq_eq_false_iff_ne.2 (by omega)
    clear h
    go_enter Try.func10, Try.ntmps10
    go_wp2
    go_region
    all_goals go_wp2
    all_goals exact bodyPost_ret (v := .tuple #[.int .i64 1, stV a b c d e]) (by simp [results, Try.results10, go_sem]) rfl ⟨rfl, (by repeat (first | with_reducible exact Mod.refl _ _ | with_reducible assumption | with_reducible refine Mod.alloc ?_ _ | with_reducible refine Mod.drew ?_ | with_reducible refine Mod.drewN ?_ _ | with_reducible refine Mod.setCell ?_ (by first | exact .inl rfl | (left; (try unfold from_); show _ ≤ _; first | omega | (simp; done) | (simp; omega)) | (right; first | omega | (simp; done) | (simp; omega))) _ | with_reducible refine Mod.call0 ?_ (by with_reducible assumption) | with_reducible refine Mod.call ?_ (by with_reducible assumption) (by first | (rintro _ rfl; first | exact .inl rfl | (right; (first | omega | (simp; done) | (simp; omega)))) | (rintro _ (rfl | rfl) <;> (right; (first | omega | (simp; done) | (simp; omega)))))))⟩
set_option maxHeartbeats 1000000 in
theorem what_go (a b c d e xs xt xp stamp wait : Int) (some : Bool) (w : World) (h : some = false ∨ stamp < xs) :
    Calls Try.prog 10 #[stV a b c d e, sightV some xs xt xp, .int .i64 stamp, .int .i64 wait, .bool false] w
     fun en w' => en = .returned (.tuple #[.int .i64 2, stV a b c d e]) ∧ Mod nowhere w w' := by
  cases some
  · clear h
    go_enter Try.func10, Try.ntmps10
    go_wp2
    go_region
    all_goals go_wp2
    all_goals exact bodyPost_ret (v := .tuple #[.int .i64 2, stV a b c d e]) (by simp [results, Try.results10, go_sem]) rfl ⟨rfl, (by repeat (first | with_reducible exact Mod.refl _ _ | with_reducible assumption | with_reducible refine Mod.alloc ?_ _ | with_reducible refine Mod.drew ?_ | with_reducible refine Mod.drewN ?_ _ | with_reducible refine Mod.setCell ?_ (by first | exact .inl rfl | (left; (try unfold from_); show _ ≤ _; first | omega | (simp; done) | (simp; omega)) | (right; first | omega | (simp; done) | (simp; omega))) _ | with_reducible refine Mod.call0 ?_ (by with_reducible assumption) | with_reducible refine Mod.call ?_ (by with_reducible assumption) (by first | (rintro _ rfl; first | exact .inl rfl | (right; (first | omega | (simp; done) | (simp; omega)))) | (rintro _ (rfl | rfl) <;> (right; (first | omega | (simp; done) | (simp; omega)))))))⟩
  · have h' : stamp < xs := by simpa using h
    have q1 : (xs == stamp) = false := beq_eq_false_iff_ne.2 (by omega)
    clear h
    go_enter Try.func10, Try.ntmps10
    go_wp2
    go_region
    all_goals go_wp2
    all_goals exact bodyPost_ret (v := .tuple #[.int .i64 2, stV a b c d e]) (by simp [results, Try.results10, go_sem]) rfl ⟨rfl, (by repeat (first | with_reducible exact Mod.refl _ _ | with_reducible assumption | with_reducible refine Mod.alloc ?_ _ | with_reducible refine Mod.drew ?_ | with_reducible refine Mod.drewN ?_ _ | with_reducible refine Mod.setCell ?_ (by first | exact .inl rfl | (left; (try unfold from_); show _ ≤ _; first | omega | (simp; done) | (simp; omega)) | (right; first | omega | (simp; done) | (simp; omega))) _ | with_reducible refine Mod.call0 ?_ (by with_reducible assumption) | with_reducible refine Mod.call ?_ (by with_reducible assumption) (by first | (rintro _ rfl; first | exact .inl rfl | (right; (first | omega | (simp; done) | (simp; omega)))) | (rintro _ (rfl | rfl) <;> (right; (first | omega | (simp; done) | (simp; omega)))))))⟩
def goOrStay (wait looks : Int) : Int := if wait < looks then 2 else 3
set_option maxHeartbeats 2000000 in
theorem what_look (a b c d e xs xt xp stamp wait : Int) (tr : Bool) (w : World) (h : xs < stamp) (hb : I64 b) (m0 m1 m2 m3 m4 : Int) (hM : metF ⟨a, b, c, d, e⟩ ⟨xs, 0, 0, xp, false⟩ = ⟨m0, m1, m2, m3, m4⟩) (he : I64 m4)
    (l0 l1 l2 l3 l4 : Int) (hL : lookF ⟨m0, m1, m2, m3, m4⟩ xp = ⟨l0, l1, l2, l3, l4⟩) :
    Calls Try.prog 10 #[stV a b c d e, sightV true xs xt xp, .int .i64 stamp, .int .i64 wait, .bool tr] w
     fun en w' => en = .returned (.tuple #[.int .i64 (goOrStay wait l4), stV l0 l1 l2 l3 l4]) ∧ Mod nowhere w w' := by
  have q1 : (xs == stamp) = false := beq_eq_false_iff_ne.2 (by omega)
  have HM := hide hM
  have HL := hide hL
  clear hM hL
  go_enter Try.func10, Try.ntmps10
  go_upto_region 7 with fail
  go_cut [12] (fun s12 wx => s12 = .bool (decide (wait < l4)) ∧ Blk wx w.heap.size 23 #[.int .i64 l0, .int .i64 l1, .int .i64 l2, .int .i64 l3, .int .i64 l4] ∧ Blk wx (w.heap.size + 1 + 1) 23 #[.int .i64 0, .int .i64 0, .int .i64 0, .int .i64 0, .int .i64 0] ∧ Mod nowhere w wx)
  case first =>
    go_region_law (first | (go_simp; (go_at_call 24; (with_reducible refine (met_calls _ _ _ _ _ _ _ _ _ _ _ hb).mono ?_); rintro e w5 ⟨rfl, hbw5⟩; have hzw5 := hbw5.size; (try simp at hzw5); (try (have ltw50 : w.heap.size < w5.heap.size := (by omega); have lcw50 := fun o => hbw5.cell (b := w.heap.size) o (by first | omega | (simp; done) | (simp; omega)) (id); have lfw50 := fun o => hbw5.frozen (b := w.heap.size) o (by first | omega | (simp; done) | (simp; omega)) (id))); (try (have ltw51 : w.heap.size + 1 < w5.heap.size := (by omega); have lcw51 := fun o => hbw5.cell (b := w.heap.size + 1) o (by first | omega | (simp; done) | (simp; omega)) (id); have lfw51 := fun o => hbw5.frozen (b := w.heap.size + 1) o (by first | omega | (simp; done) | (simp; omega)) (id))); (try (have ltw52 : w.heap.size + 1 + 1 < w5.heap.size := (by omega); have lcw52 := fun o => hbw5.cell (b := w.heap.size + 1 + 1) o (by first | omega | (simp; done) | (simp; omega)) (id); have lfw52 := fun o => hbw5.frozen (b := w.heap.size + 1 + 1) o (by first | omega | (simp; done) | (simp; omega)) (id))); rw [HM.out])) | (go_simp; (go_at_call 23; (with_reducible refine (look_calls _ _ _ _ _ _ _ _ he).mono ?_); rintro e w6 ⟨rfl, hbw6⟩; have hzw6 := hbw6.size; (try simp at hzw6); (try (have ltw60 : w.heap.size < w6.heap.size := (by omega); have lcw60 := fun o => hbw6.cell (b := w.heap.size) o (by first | omega | (simp; done) | (simp; omega)) (id); have lfw60 := fun o => hbw6.frozen (b := w.heap.size) o (by first | omega | (simp; done) | (simp; omega)) (id))); (try (have ltw61 : w.heap.size + 1 < w6.heap.size := (by omega); have lcw61 := fun o => hbw6.cell (b := w.heap.size + 1) o (by first | omega | (simp; done) | (simp; omega)) (id); have lfw61 := fun o => hbw6.frozen (b := w.heap.size + 1) o (by first | omega | (simp; done) | (simp; omega)) (id))); (try (have ltw62 : w.heap.size + 1 + 1 < w6.heap.size := (by omega); have lcw62 := fun o => hbw6.cell (b := w.heap.size + 1 + 1) o (by first | omega | (simp; done) | (simp; omega)) (id); have lfw62 := fun o => hbw6.frozen (b := w.heap.size + 1 + 1) o (by first | omega | (simp; done) | (simp; omega)) (id))); rw [HL.out])))
    all_goals
      go_wp2_with fail
      go_meet
    all_goals exact ⟨rfl, (by repeat (first | with_reducible assumption | with_reducible apply Blk.new | with_reducible exact Blk.newAt (by first | rfl | (simp; done) | (simp; omega)) | with_reducible apply Blk.alloc | with_reducible apply Blk.drew | with_reducible apply Blk.drewN | with_reducible apply Blk.keep0 (hm := by with_reducible assumption) | with_reducible apply Blk.keep (hm := by with_reducible assumption) (hg := by first | omega | exact not_two (by omega) (by omega)) | with_reducible apply Blk.far (hp := by first | omega | (simp; done) | (simp; omega)) | with_reducible apply Blk.set1 | rfl)), (by repeat (first | with_reducible assumption | with_reducible apply Blk.new | with_reducible exact Blk.newAt (by first | rfl | (simp; done) | (simp; omega)) | with_reducible apply Blk.alloc | with_reducible apply Blk.drew | with_reducible apply Blk.drewN | with_reducible apply Blk.keep0 (hm := by with_reducible assumption) | with_reducible apply Blk.keep (hm := by with_reducible assumption) (hg := by first | omega | exact not_two (by omega) (by omega)) | with_reducible apply Blk.far (hp := by first | omega | (simp; done) | (simp; omega)) | with_reducible apply Blk.set1 | rfl)), (by repeat (first | with_reducible exact Mod.refl _ _ | with_reducible assumption | with_reducible refine Mod.alloc ?_ _ | with_reducible refine Mod.drew ?_ | with_reducible refine Mod.drewN ?_ _ | with_reducible refine Mod.setCell ?_ (by first | exact .inl rfl | (left; (try unfold from_); show _ ≤ _; first | omega | (simp; done) | (simp; omega)) | (right; first | omega | (simp; done) | (simp; omega))) _ | with_reducible refine Mod.call0 ?_ (by with_reducible assumption) | with_reducible refine Mod.call ?_ (by with_reducible assumption) (by first | (rintro _ rfl; first | exact .inl rfl | (right; (first | omega | (simp; done) | (simp; omega)))) | (rintro _ (rfl | rfl) <;> (right; (first | omega | (simp; done) | (simp; omega)))))))⟩
  case rest =>
    obtain ⟨rfl, h1, h2, hmc⟩ := hcut
    have c_h1 := h1.cell; have f_h1 := h1.frozen; have l_h1 := h1.lt; have c_h2 := h2.cell; have f_h2 := h2.frozen; have l_h2 := h2.lt
    by_cases hw : wait < l4
    · have HW := hide (show goOrStay wait l4 = 2 from if_pos hw)
      go_wp2
      go_region
      all_goals go_wp2
      all_goals exact bodyPost_ret (v := .tuple #[.int .i64 2, stV l0 l1 l2 l3 l4]) (by simp [results, Try.results10, go_sem, *]) rfl ⟨HW.out.symm ▸ rfl, (by repeat (first | with_reducible exact Mod.refl _ _ | with_reducible assumption | with_reducible refine Mod.alloc ?_ _ | with_reducible refine Mod.drew ?_ | with_reducible refine Mod.drewN ?_ _ | with_reducible refine Mod.setCell ?_ (by first | exact .inl rfl | (left; (try unfold from_); show _ ≤ _; first | omega | (simp; done) | (simp; omega)) | (right; first | omega | (simp; done) | (simp; omega))) _ | with_reducible refine Mod.call0 ?_ (by with_reducible assumption) | with_reducible refine Mod.call ?_ (by with_reducible assumption) (by first | (rintro _ rfl; first | exact .inl rfl | (right; (first | omega | (simp; done) | (simp; omega)))) | (rintro _ (rfl | rfl) <;> (right; (first | omega | (simp; done) | (simp; omega)))))))⟩
    · have HW := hide (show goOrStay wait l4 = 3 from if_neg hw)
      go_wp2
      go_region
      all_goals go_wp2
      all_goals exact bodyPost_ret (v := .tuple #[.int .i64 3, stV l0 l1 l2 l3 l4]) (by simp [results, Try.results10, go_sem, *]) rfl ⟨HW.out.symm ▸ rfl, (by repeat (first | with_reducible exact Mod.refl _ _ | with_reducible assumption | with_reducible refine Mod.alloc ?_ _ | with_reducible refine Mod.drew ?_ | with_reducible refine Mod.drewN ?_ _ | with_reducible refine Mod.setCell ?_ (by first | exact .inl rfl | (left; (try unfold from_); show _ ≤ _; first | omega | (simp; done) | (simp; omega)) | (right; first | omega | (simp; done) | (simp; omega))) _ | with_reducible refine Mod.call0 ?_ (by with_reducible assumption) | with_reducible refine Mod.call ?_ (by with_reducible assumption) (by first | (rintro _ rfl; first | exact .inl rfl | (right; (first | omega | (simp; done) | (simp; omega)))) | (rintro _ (rfl | rfl) <;> (right; (first | omega | (simp; done) | (simp; omega)))))))⟩

end Go.Proofs.Ytiklhnngkebkeaa
