/- The document's example of layer 4, run. -/
import Derived.Test.YtanmibdnnjfpbaaCells7
namespace Go.Proofs.Ytanmibdnnjfpbaa
open Go.RowKit

theorem Sys.mono {w : World} {B B' r N nd : Nat} {K : KD} {cs : List Value} {v : Nat → Nat} {M : Int → Option Nat} {q : Int → Nat} {st : Int → Int} (h : Sys w B K r N cs v nd M q st) (hB : B' ≤ B) : Sys w B' K r N cs v nd M q st :=
  { h with cf := { h.cf with bs := fun i hi => Nat.le_trans hB (h.cf.bs i hi), old := ⟨Nat.le_trans hB h.cf.old.1, Nat.le_trans hB h.cf.old.2⟩ }, bd := fun i d hd => ⟨Nat.le_trans hB (h.bd i d hd).1, Nat.le_trans hB (h.bd i d hd).2⟩, old := ⟨Nat.le_trans hB h.old.1, Nat.le_trans hB h.old.2.1, Nat.le_trans hB h.old.2.2.1, Nat.le_trans hB h.old.2.2.2⟩ }

theorem Cur.mk {cs : List Value} {N : Nat} {st : Int → Int} {l : Nat} {val : Int} (own old new : Int) (y : Nat) (h1 : l < N) (h2 : Rec9 cs l 2 0 own old new 0 0 0 0) (h3 : I64 own) (h4 : (if own = -1 ∨ st own = 2 then new else old) = (y : Int)) (h5 : y < N) (h6 : Rec9 cs y 1 val 0 0 0 0 0 0 0) : Cur cs N st l val :=
  ⟨own, old, new, y, h1, h2, h3, h4, h5, h6⟩

/-- What made answers: a system of as many objects as there are first values. -/
def MadeSys (w w' : World) (n : Nat) (most : Int) (l : List Int) (e : Ending) : Prop :=
  ∃ (K : KD) (r : Nat) (cs : List Value), e = .returned (.tuple #[.pointer (some ⟨K.a, 0, none⟩), .pointer (some ⟨K.t, 0, none⟩), .pointer (some ⟨K.c, 0, none⟩), .int .i64 0]) ∧ K.k = n ∧ K.most = most ∧
    Sys w' w.heap.size K r (2 * n) cs (fun i => 2 * i + 1) 0 (fun _ => none) (fun _ => 0) (fun _ => 0) ∧ First l n cs ∧ Mod nowhere w w'
set_option maxRecDepth 100000 in
set_option maxHeartbeats 2000000 in
theorem made4_calls (most : Int) (l : List Int) (b o cap n : Nat) (w : World) (hl : l.length = n) (h1 : 1 ≤ n) (h8 : n ≤ 8) (h2 : 2 * (n : Int) ≤ most) (h4 : most ≤ 4096) (hb : b < w.heap.size) (hx : ∀ k x, l[k]? = some x → w.cell? ⟨b, o + k, none⟩ = some (.int .i64 x)) :
    Calls Try.prog 5 #[.int .i64 most, .slice (some ⟨b, o, none⟩) n cap] w fun e w' => MadeSys w w' n most l e := by
  have ha := Arn.new w 87 45 9 most
  have HX := hide hx
  clear hx
  go_enter Try.func5, Try.ntmps5
  go_wp2_with (go_at_call 21; (with_reducible refine (anew_rec most _ (by omega) h4).mono ?_); rintro e w' ⟨rfl, rfl⟩)
  (with_reducible refine (dnew_calls _ _).mono ?_)
  rintro e w1 ⟨rfl, ht, hm, hm1⟩
  simp only [World.size_alloc] at ht hm
  have hz1 := hm1.size
  simp at hz1
  have y1 : Mod nowhere w w1 := (by repeat (first | with_reducible exact Mod.refl _ _ | with_reducible assumption | with_reducible refine Mod.alloc ?_ _ | with_reducible refine Mod.drew ?_ | with_reducible refine Mod.drewN ?_ _ | with_reducible refine Mod.setCell ?_ (by first | exact .inl rfl | (left; (try unfold from_); show _ ≤ _; first | omega | (simp; done) | (simp; omega)) | (right; first | omega | (simp; done) | (simp; omega))) _ | with_reducible refine Mod.call0 ?_ (by with_reducible assumption) | with_reducible refine Mod.call ?_ (by with_reducible assumption) (by first | (rintro _ rfl; first | exact .inl rfl | (right; (first | omega | (simp; done) | (simp; omega)))) | (rintro _ (rfl | rfl) <;> (right; (first | omega | (simp; done) | (simp; omega)))))))
  have ha1 := ha.keep0 hm1
  go_wp2_with fail
  (with_reducible refine (cnew_ok l w.heap.size b o cap n most _ hl h1 h8 h2 h4 (by exact (by repeat (first | with_reducible assumption | with_reducible apply Own.drew | with_reducible apply Own.drewN | with_reducible apply Own.alloc | with_reducible apply Own.keep0 (hm := by with_reducible assumption) | with_reducible apply Own.keep (hm := by with_reducible assumption) (hg := by first | omega | exact not_two (by omega) (by omega)) (hr := by first | omega | exact not_two (by omega) (by omega)) | with_reducible apply Own.far (hg := by first | omega | (simp; omega)) (hr := by first | omega | (simp; omega))))) (by omega) (by omega) (fun k x hk => (y1.cell (o + k) hb id).trans (HX.out k x hk))).mono ?_)
  rintro e w2 ⟨c, r, rc, ws, cs, s, rfl, hF, hFi, hr, hm2⟩
  go_wp2
  have l_t := ht.lt
  have l_m := hm.lt
  have hFo := hF.old
  have hw1 : w.heap.size ≤ w1.heap.size := y1.size
  have hr4 : w.heap.size ≤ r := by omega
  refine bodyPost_ret (v := .tuple #[.pointer (some ⟨w.heap.size, 0, none⟩), .pointer (some ⟨w.heap.size + 1 + 1, 0, none⟩), .pointer (some ⟨c, 0, none⟩), .int .i64 0]) (by simp [results, Try.results5, go_sem, *]) rfl ?_
  refine ⟨⟨c, w.heap.size, rc, n, w.heap.size + 1 + 1, w.heap.size + 1, most, ws, s⟩, r, cs, rfl, rfl, rfl, ?_, hFi, y1.call hm2 (by rintro i rfl; exact .inr (Nat.le_refl _))⟩
  exact { cf := { hF with bs := fun i hi => Nat.le_trans hw1 (hF.bs i hi), old := ⟨Nat.le_trans hw1 hFo.1, Nat.le_trans hw1 hFo.2⟩ }, tab := Blk.keep ht hm2 (show ¬ w.heap.size + 1 + 1 = w.heap.size by omega), map := hm.keep hm2 (show ¬ w.heap.size + 1 = w.heap.size by omega), dsc := fun i d hd => (by cases hd), dst := fun i d hd => (by cases hd), non := fun _ _ => rfl, qq := fun i j d1 d2 hd => (by cases hd), sq := fun i j d hi hd => (by cases hd), bd := fun i d hd => (by cases hd), old := ⟨Nat.le_refl _, hr4, Nat.le_add_right _ 2, Nat.le_add_right _ 1⟩, le := Nat.zero_le _, k8 := h8, m4 := h4, fit := by show ((2 * n : Nat) : Int) ≤ most; omega }

set_option maxRecDepth 100000 in
set_option maxHeartbeats 4000000 in
theorem alive4_calls (w : World) :
    Calls Try.prog 4 #[] w fun en w' => en = .returned (.bool true) ∧ Mod nowhere w w' := by
  go_enter Try.func4, Try.ntmps4
  go_wp2_with fail
  (with_reducible refine (made4_calls 9 [5] w.heap.size 0 1 1 _ rfl (by omega) (by omega) (by omega) (by omega) (by simp) ?_).mono ?_)
  · intro k x hk
    rcases k with _ | k
    · simp at hk; subst hk; simp
    · simp at hk
  rintro e w1 ⟨K, r, cs, rfl, hk, hmo, hS1, hFi, hm1⟩
  have y1 : Mod nowhere w w1 := (by repeat (first | with_reducible exact Mod.refl _ _ | with_reducible assumption | with_reducible refine Mod.alloc ?_ _ | with_reducible refine Mod.drew ?_ | with_reducible refine Mod.drewN ?_ _ | with_reducible refine Mod.setCell ?_ (by first | exact .inl rfl | (left; (try unfold from_); show _ ≤ _; first | omega | (simp; done) | (simp; omega)) | (right; first | omega | (simp; done) | (simp; omega))) _ | with_reducible refine Mod.call0 ?_ (by with_reducible assumption) | with_reducible refine Mod.call ?_ (by with_reducible assumption) (by first | (rintro _ rfl; first | exact .inl rfl | (right; (first | omega | (simp; done) | (simp; omega)))) | (rintro _ (rfl | rfl) <;> (right; (first | omega | (simp; done) | (simp; omega)))))))
  have z1 := y1.size
  have f1 : Rec9 cs 0 1 5 0 0 0 0 0 0 0 := (hFi 0 5 (by omega) rfl).1
  have f2 : Rec9 cs 1 2 0 (-1) 0 0 0 0 0 0 := (hFi 0 5 (by omega) rfl).2
  replace hS1 := hS1.mono (B' := w.heap.size) (by simp)
  clear hm1 hFi
  simp only [Nat.mul_one] at hS1
  go_wp2_with fail
  (with_reducible refine (sys_load _ hS1 0 0 rfl (by omega)).mono ?_)
  rintro e w2 ⟨rfl, hS2, hm2⟩
  have y2 : Mod nowhere w w2 := y1.call hm2 fun i hi => .inr (hS1.ge hi.in_)
  go_wp2_with fail
  (with_reducible refine (sys_beg _ hS2 y2.size 0 0 1 0 0 (by omega) (by decide) (by decide) (by decide) (by decide) (by decide)).mono ?_)
  rintro e w3 ⟨r3, d, x, rfl, hr3, hS3, hm3⟩
  have y3 : Mod nowhere w w3 := y2.call hm3 fun i hi => .inr (hS2.ge hi)
  have e3 := hS3.cf.arn.len
  go_wp2_with fail
  (with_reducible refine (sys_ver _ hS3 y3.size 7 (by omega)).mono ?_)
  rintro e w4 ⟨r4, rfl, hS4, hr4, hm4⟩
  have y4 : Mod nowhere w w4 := y3.call hm4 fun i hi => .inr (hS3.ge hi)
  have e4 := hS4.cf.arn.len
  have f4 := Rec9.new (i := 3) 1 7 0 0 0 0 0 0 0 (e3)
  go_wp2_with fail
  (with_reducible refine (sys_bld _ hS4 y4.size 2 0 3 5 7 0 3 rfl rfl (by omega) (by omega) f1.more.more f4 (by omega) (by omega)).mono ?_)
  rintro e w5 ⟨r5, rfl, hS5, hr5, hm5⟩
  have y5 : Mod nowhere w w5 := y4.call hm5 fun i hi => .inr (hS4.ge hi)
  have f5 := Rec9.new (i := 4) 2 0 2 0 3 0 0 0 0 (e4)
  go_wp2_with fail
  (with_reducible refine (sys_cur _ hS5 0 0 rfl (by omega) 5 (Cur.mk (-1) 0 0 0 (by omega) f2.more.more.more (by unfold I64; omega) (by simp) (by omega) f1.more.more.more)).mono ?_)
  rintro e w6 ⟨rfl, hS6, hm6⟩
  have y6 : Mod nowhere w w6 := y5.call hm6 fun i hi => .inr (hS5.ge hi.in_)
  go_wp2_with fail
  (with_reducible refine (sys_swap _ hS6 0 1 4 0 4 rfl (by omega) rfl).mono ?_)
  rintro e w7 ⟨rfl, hS7, hm7⟩
  have y7 : Mod nowhere w w7 := y6.call hm7 fun i hi => .inr (hS6.ge hi.in_)
  go_wp2_with fail
  (with_reducible refine (sys_cur _ hS7 0 0 rfl (by omega) 5 (Cur.mk 2 0 3 0 (by simp [upd]) (by simpa [upd] using f5) (by unfold I64; omega) (by simp [updz]) (by omega) f1.more.more.more)).mono ?_)
  rintro e w8 ⟨rfl, hS8, hm8⟩
  have y8 : Mod nowhere w w8 := y7.call hm8 fun i hi => .inr (hS7.ge hi.in_)
  go_wp2_with fail
  (with_reducible refine (sys_turn _ hS8 2 2 d (by unfold I64; omega) (by simp [updz])).mono ?_)
  rintro e w9 ⟨rfl, hS9, hm9⟩
  have y9 : Mod nowhere w w9 := y8.call hm9 fun i hi => .inr (hS8.ge hi.in_)
  go_wp2_with fail
  (with_reducible refine (sys_cur _ hS9 0 0 rfl (by omega) 7 (Cur.mk 2 0 3 3 (by simp [upd]) (by simpa [upd] using f5) (by unfold I64; omega) (by simp [updz]) (by omega) f4.more)).mono ?_)
  rintro e w10 ⟨rfl, hS10, hm10⟩
  have y10 : Mod nowhere w w10 := y9.call hm10 fun i hi => .inr (hS9.ge hi.in_)
  go_wp2
  go_ret
  exact ⟨rfl, y10⟩
end Go.Proofs.Ytanmibdnnjfpbaa
