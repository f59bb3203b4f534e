/- All objects' values; two rows of numbers that are one. -/
import Derived.Test.YtanmibdnnjfpbaaCells8
import Derived.LoopTactic
namespace Go.Proofs.Ytanmibdnnjfpbaa
open Go.RowKit

theorem ainfo_i64 : (Try.prog.info? 2).map (fun i => (i.zero, i.size, i.bytes)) = some (some (.int .i64 0), 1, 8) := by kernel_rfl

/-- A slice held in a variable whose row, if any, was made behind H. -/
def LocRow (w : World) (H : Nat) (E : TypeId) (size : Nat) (v : Value) (n : Nat) (cs : List Value) : Prop :=
  ∃ A cap, v = .slice A n cap ∧ w.ownsRow 0 E size (.slice A n cap) n cs ∧ ((n = 0 ∧ A = none ∧ cap = 0) ∨ ∃ q, A = some ⟨q, 0, none⟩ ∧ H ≤ q)
theorem LocRow.nil (w : World) (H : Nat) (E : TypeId) (size : Nat) : LocRow w H E size (.slice none 0 0) 0 [] := ⟨none, 0, rfl, ⟨by simp, .inl ⟨rfl, rfl⟩⟩, .inl ⟨rfl, rfl, rfl⟩⟩
theorem LocRow.keep {S : Nat → Prop} {w w' : World} {H : Nat} {E : TypeId} {size : Nat} {v : Value} {n : Nat} {cs : List Value} (h : LocRow w H E size v n cs) (hm : Mod S w w') (hS : ∀ b, S b → b < H) : LocRow w' H E size v n cs := by
  obtain ⟨A, cap, rfl, ho, hA⟩ := h
  refine ⟨A, cap, rfl, ?_, hA⟩
  rcases hA with ⟨rfl, rfl, rfl⟩ | ⟨q, rfl, hq⟩
  · exact ⟨ho.1, .inl ⟨rfl, rfl⟩⟩
  · exact owns_keep ho hm fun hs => by have := hS q hs; omega
theorem LocRow.keep0 {w w' : World} {H : Nat} {E : TypeId} {size : Nat} {v : Value} {n : Nat} {cs : List Value} (h : LocRow w H E size v n cs) (hm : Mod nowhere w w') : LocRow w' H E size v n cs := h.keep hm fun _ x => x.elim

set_option maxRecDepth 100000 in
set_option maxHeartbeats 4000000 in
theorem vals_same (l : List Int) (A A' : Option Addr) (n c c' B B' : Nat) (w : World) (hl : l.length = n) (hn : n ≤ 200) (hr : Reads w B 1 A n (l.map (Value.int .i64))) (hr' : Reads w B' 1 A' n (l.map (Value.int .i64))) (hB : B ≤ w.heap.size) (hB' : B' ≤ w.heap.size) :
    Calls Try.prog 15 #[.slice A n c, .slice A' n c'] w fun e w' => e = .returned (.bool true) ∧ Mod nowhere w w' := by
  have HR := hide hr
  have HR' := hide hr'
  have HL := hide hl
  clear hr hr' hl
  go_enter Try.func15, Try.ntmps15
  go_wp2
  go_loopw [5] (fun s5 wx => ∃ k : Nat, s5 = .int .i64 k ∧ k ≤ n ∧ Mod nowhere w wx) (fun s5 _ => (300 - (intOf s5)).toNat)
  case atStart => exact ⟨0, rfl, Nat.zero_le _, (by repeat (first | with_reducible exact Mod.refl _ _ | with_reducible assumption | with_reducible refine Mod.alloc ?_ _ | with_reducible refine Mod.drew ?_ | with_reducible refine Mod.drewN ?_ _ | with_reducible refine Mod.setCell ?_ (by first | exact .inl rfl | (left; (try unfold from_); show _ ≤ _; first | omega | (simp; done) | (simp; omega)) | (right; first | omega | (simp; done) | (simp; omega))) _ | with_reducible refine Mod.call0 ?_ (by with_reducible assumption) | with_reducible refine Mod.call ?_ (by with_reducible assumption) (by first | (rintro _ rfl; first | exact .inl rfl | (right; (first | omega | (simp; done) | (simp; omega)))) | (rintro _ (rfl | rfl) <;> (right; (first | omega | (simp; done) | (simp; omega)))))))⟩
  case round =>
    obtain ⟨k, rfl, hk, hm⟩ := hrel
    have hsz := hm.size
    by_cases hlt : k < n
    · have hx' : l[k]? = some (l[k]'(by have := HL.out; omega)) := List.getElem?_eq_getElem (by have := HL.out; omega)
      generalize l[k]'(by have := HL.out; omega) = x at hx'
      obtain ⟨b, o, rfl, hbl, hcell⟩ := HR.out.form (by omega) (by omega)
      obtain ⟨b', o', rfl, hbl', hcell'⟩ := HR'.out.form (by omega) (by omega)
      have c1 := (hm.cell (o + k) (by omega) id).trans (hcell k (.int .i64 x) (by rw [List.getElem?_map, hx']; rfl))
      have c2 := (hm.cell (o' + k) (by omega) id).trans (hcell' k (.int .i64 x) (by rw [List.getElem?_map, hx']; rfl))
      clear hx' hcell hcell'
      go_wp2
      go_region
      all_goals (go_wp2; go_roundw)
      all_goals first | exact ⟨k + 1, by go_num, by omega, (by repeat (first | with_reducible exact Mod.refl _ _ | with_reducible assumption | with_reducible refine Mod.alloc ?_ _ | with_reducible refine Mod.drew ?_ | with_reducible refine Mod.drewN ?_ _ | with_reducible refine Mod.setCell ?_ (by first | exact .inl rfl | (left; (try unfold from_); show _ ≤ _; first | omega | (simp; done) | (simp; omega)) | (right; first | omega | (simp; done) | (simp; omega))) _ | with_reducible refine Mod.call0 ?_ (by with_reducible assumption) | with_reducible refine Mod.call ?_ (by with_reducible assumption) (by first | (rintro _ rfl; first | exact .inl rfl | (right; (first | omega | (simp; done) | (simp; omega)))) | (rintro _ (rfl | rfl) <;> (right; (first | omega | (simp; done) | (simp; omega)))))))⟩ | (simp [intOf] <;> omega)
    · go_wp2
      go_ret
      exact ⟨rfl, hm⟩

section
variable {B r N nd : Nat} {K : KD} {cs : List Value} {v : Nat → Nat} {M : Int → Option Nat} {q : Int → Nat} {st : Int → Int}
set_option maxRecDepth 100000 in
set_option maxHeartbeats 4000000 in
theorem sys_all (w : World) (h : Sys w B K r N cs v nd M q st) (l : List Int) (hl : l.length = K.k) (hc : ∀ i x, l[i]? = some x → Cur cs N st (v i) x) :
    Calls Try.prog 16 #[.pointer (some ⟨K.c, 0, none⟩), .pointer (some ⟨K.t, 0, none⟩)] w fun e w' => ∃ z, e = .returned z ∧ LocRow w' w.heap.size 2 1 z K.k (l.map (Value.int .i64)) ∧ Sys w' B K r N cs v nd M q st ∧ Mod (Wd K M q) w w' := by
  have hk8 := h.k8
  have hlts : ∀ b, In K r M q b → b < w.heap.size := fun b => h.lt
  have HC := hide hc
  have HL := hide hl
  have HT := hide hlts
  clear hc hl hlts
  go_enter Try.func16, Try.ntmps16
  go_wp2_with fail
  (with_reducible refine (obj_calls K.c K.a K.rc K.k K.ws w h.cf.cls).mono ?_)
  rintro e w5 ⟨rfl, hm5⟩
  have h5 := h.keep0 hm5
  have hz5 := hm5.size
  go_wp2_with fail
  go_loopw [5, 6, 7, 8, 11] (fun s5 _ _ _ s11 wx => ∃ (j : Nat), s11 = .int .i64 j ∧ j ≤ K.k ∧ LocRow wx w.heap.size 2 1 s5 j ((l.take j).map (Value.int .i64)) ∧ Sys wx B K r N cs v nd M q st ∧ Mod (Wd K M q) w wx)
    (fun _ _ _ _ s11 _ => (300 - (intOf s11)).toNat)
  case atStart => exact ⟨0, rfl, Nat.zero_le _, LocRow.nil _ _ _ _, h5, hm5.mono fun _ x => x.elim⟩
  case round =>
    obtain ⟨j, rfl, hj, hL, hS, hmr⟩ := hrel
    have hsz := hmr.size
    by_cases hlt : j < K.k
    · have hx' : l[j]? = some (l[j]'(by have := HL.out; omega)) := List.getElem?_eq_getElem (by have := HL.out; omega)
      generalize l[j]'(by have := HL.out; omega) = x at hx'
      have htk : (l.take (j + 1)).map (Value.int .i64) = (l.take j).map (Value.int .i64) ++ [.int .i64 x] := by rw [List.take_add_one, hx']; simp
      have HX := hide hx'
      have HK := hide htk
      clear hx' htk
      go_wp2_with fail
      (with_reducible refine (sys_cur _ hS (j : Int) j rfl hlt x (HC.out j x HX.out)).mono ?_)
      rintro e w6 ⟨rfl, h6, hm6⟩
      have hz6 := hm6.size
      have hL6 := hL.keep hm6 (fun b hb => HT.out b hb.in_)
      obtain ⟨A, cap, rfl, ho, hA⟩ := hL6
      have HA := hide hA
      clear hA hL
      obtain ⟨i0, hi, hz0, hz1, hz2⟩ := info_parts ainfo_i64
      go_wp2_with (at_builtin; (refine wpList_append_lies _ rfl _ _ _ rfl 0 2 i0 (.int .i64 0) 1 8 Try.underlying22 hi hz0 hz1 hz2 (by rfl) (by omega) _ j ((l.take j).map (Value.int .i64)) (by rfl) (owns_keep0 ho (by repeat (first | with_reducible exact Mod.refl _ _ | with_reducible assumption | with_reducible refine Mod.alloc ?_ _ | with_reducible refine Mod.drew ?_ | with_reducible refine Mod.drewN ?_ _ | with_reducible refine Mod.setCell ?_ (by first | exact .inl rfl | (left; (try unfold from_); show _ ≤ _; first | omega | (simp; done) | (simp; omega)) | (right; first | omega | (simp; done) | (simp; omega))) _ | with_reducible refine Mod.call0 ?_ (by with_reducible assumption) | with_reducible refine Mod.call ?_ (by with_reducible assumption) (by first | (rintro _ rfl; first | exact .inl rfl | (right; (first | omega | (simp; done) | (simp; omega)))) | (rintro _ (rfl | rfl) <;> (right; (first | omega | (simp; done) | (simp; omega)))))))) ⟨w6.heap.size, 0, none⟩ 1 1 [.int .i64 x] (by rfl) (by rfl) (World.news_of_block (B := w6.heap.size) (cs := #[.int .i64 x]) (t := 2) (fr := (0, 0)) (by show Blk _ _ _ _; exact (by repeat (first | with_reducible assumption | with_reducible apply Blk.new | with_reducible exact Blk.newAt (by first | rfl | (simp; done) | (simp; omega)) | with_reducible apply Blk.alloc | with_reducible apply Blk.drew | with_reducible apply Blk.drewN | with_reducible apply Blk.keep0 (hm := by with_reducible assumption) | with_reducible apply Blk.keep (hm := by with_reducible assumption) (hg := by first | omega | exact not_two (by omega) (by omega)) | with_reducible apply Blk.far (hp := by first | omega | (simp; done) | (simp; omega)) | with_reducible apply Blk.set1 | rfl)))) (by simp [Value.oneCell']) (by omega) (by unfold maxLen; omega) (by omega) (Nat.zero_le _) (w6.heap.size + 1) (by simp) ?_); rintro q1 cap1 w1 hown hgrow hat hlt)
      · have hq : w.heap.size ≤ q1 ∧ ∀ b, some b = (Value.slice A j cap).ownBlock → w.heap.size ≤ b := by
          rcases HA.out with ⟨rfl, rfl, rfl⟩ | ⟨q2, rfl, hq2⟩
          · exact ⟨by rcases hat with hh | hh <;> first | omega | (simp [Value.ownBlock] at hh), fun b hb => by simp [Value.ownBlock] at hb⟩
          · simp only [Value.ownBlock, Option.some.injEq] at hat ⊢
            exact ⟨by rcases hat with hh | hh <;> omega, fun b hb => by omega⟩
        have m1 := Mod.of_grown hgrow
        have m0 : Mod nowhere w6 (w6.alloc (.cells #[.int .i64 x] 2)) := (by repeat (first | with_reducible exact Mod.refl _ _ | with_reducible assumption | with_reducible refine Mod.alloc ?_ _ | with_reducible refine Mod.drew ?_ | with_reducible refine Mod.drewN ?_ _ | with_reducible refine Mod.setCell ?_ (by first | exact .inl rfl | (left; (try unfold from_); show _ ≤ _; first | omega | (simp; done) | (simp; omega)) | (right; first | omega | (simp; done) | (simp; omega))) _ | with_reducible refine Mod.call0 ?_ (by with_reducible assumption) | with_reducible refine Mod.call ?_ (by with_reducible assumption) (by first | (rintro _ rfl; first | exact .inl rfl | (right; (first | omega | (simp; done) | (simp; omega)))) | (rintro _ (rfl | rfl) <;> (right; (first | omega | (simp; done) | (simp; omega)))))))
        refine ⟨⟨j + 1, by go_num, by omega, ⟨_, _, rfl, by rw [HK.out]; exact hown, .inr ⟨q1, rfl, hq.1⟩⟩, (h6.keep0 m0).keep m1 (fun b hb e => by have := hq.2 b e; have := HT.out b hb; omega), ((hmr.trans hm6).alloc _).call m1 (fun b e => .inr (hq.2 b e))⟩, ?_⟩
        simp [intOf] <;> omega
    · obtain rfl : j = K.k := by omega
      have htk : l.take K.k = l := List.take_of_length_le (Nat.le_of_eq HL.out)
      rw [htk] at hL
      go_wp2
      go_ret
      exact ⟨u5, rfl, hL, hS, hmr⟩
end
end Go.Proofs.Ytanmibdnnjfpbaa
