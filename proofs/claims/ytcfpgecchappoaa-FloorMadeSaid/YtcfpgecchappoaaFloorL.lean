/- The reference's error of a new floor; floor.New's errors. -/
import Derived.Test.YtcfpgecchappoaaFloorK
namespace Go.Proofs.Ytcfpgecchappoaa
open Go.RowKit

theorem rcheck_yes (c0 c1 c2 c3 c4 c5 : Int) (w : World) (h : CfgOk c0 c1 c2 c3 c4 c5) :
    Calls Try.prog 25 #[.agg #[.int .i64 c0, .int .i64 c1, .int .i64 c2, .int .i64 c3, .int .i64 c4, .int .i64 c5]] w fun e w' => e = .returned (.bool true) ∧ Mod nowhere w w' :=
  (rcheck_calls c0 c1 c2 c3 c4 c5 w).mono (by rintro e w' ⟨b, rfl, hb, hm⟩; obtain rfl := hb.2 h; exact ⟨rfl, hm⟩)
theorem rcheck_no (c0 c1 c2 c3 c4 c5 : Int) (w : World) (h : ¬ CfgOk c0 c1 c2 c3 c4 c5) :
    Calls Try.prog 25 #[.agg #[.int .i64 c0, .int .i64 c1, .int .i64 c2, .int .i64 c3, .int .i64 c4, .int .i64 c5]] w fun e w' => e = .returned (.bool false) ∧ Mod nowhere w w' :=
  (rcheck_calls c0 c1 c2 c3 c4 c5 w).mono (by
    rintro e w' ⟨b, rfl, hb, hm⟩
    cases b with
    | false => exact ⟨rfl, hm⟩
    | true => exact absurd (hb.1 rfl) h)
section
variable (A : Option Addr) (n cap : Nat) (c0 c1 c2 c3 c4 c5 : Int) (w : World)

theorem rnew_2 (hc : ¬ CfgOk c0 c1 c2 c3 c4 c5) :
    Calls Try.prog 23 #[.agg #[.int .i64 c0, .int .i64 c1, .int .i64 c2, .int .i64 c3, .int .i64 c4, .int .i64 c5], .slice A n cap] w fun e w' => e = .returned (.int .i64 2) ∧ Mod nowhere w w' := by
  have HC := hide hc
  clear hc
  go_enter Try.func23, Try.ntmps23
  go_wp2_with fail
  obtain ⟨W, hW⟩ : ∃ W, W = w.alloc (.cells #[.int .i64 c0, .int .i64 c1, .int .i64 c2, .int .i64 c3, .int .i64 c4, .int .i64 c5] 29) := ⟨_, rfl⟩
  have hb : Blk W w.heap.size 29 #[.int .i64 c0, .int .i64 c1, .int .i64 c2, .int .i64 c3, .int .i64 c4, .int .i64 c5] := by rw [hW]; exact Blk.new _ _ _
  have yW : Mod nowhere w W := by rw [hW]; exact (Mod.refl _ _).alloc _
  rw [← hW]
  clear hW
  (with_reducible refine (rcheck_no c0 c1 c2 c3 c4 c5 _ HC.out).mono ?_)
  rintro e w1 ⟨rfl, hm1⟩
  have hb1 := hb.keep0 hm1
  have y1 := yW.call0 hm1
  clear hm1 yW hb
  have c_hb1 := hb1.cell; have f_hb1 := hb1.frozen; have l_hb1 := hb1.lt
  go_wp2
  go_ret
  exact ⟨rfl, (by repeat (first | with_reducible exact Mod.refl _ _ | with_reducible assumption | with_reducible refine Mod.alloc ?_ _ | with_reducible refine Mod.drew ?_ | with_reducible refine Mod.drewN ?_ _ | with_reducible refine Mod.setCell ?_ (by first | exact .inl rfl | (left; (try unfold from_); show _ ≤ _; first | omega | (simp; done) | (simp; omega)) | (right; first | omega | (simp; done) | (simp; omega))) _ | with_reducible refine Mod.call0 ?_ (by with_reducible assumption) | with_reducible refine Mod.call ?_ (by with_reducible assumption) (by first | (rintro _ rfl; first | exact .inl rfl | (right; (first | omega | (simp; done) | (simp; omega)))) | (rintro _ (rfl | rfl) <;> (right; (first | omega | (simp; done) | (simp; omega)))))))⟩
theorem rnew_3 (hc : CfgOk c0 c1 c2 c3 c4 c5) (hn : ¬ (n : Int) = c0) :
    Calls Try.prog 23 #[.agg #[.int .i64 c0, .int .i64 c1, .int .i64 c2, .int .i64 c3, .int .i64 c4, .int .i64 c5], .slice A n cap] w fun e w' => e = .returned (.int .i64 3) ∧ Mod nowhere w w' := by
  have HC := hide hc
  clear hc
  go_enter Try.func23, Try.ntmps23
  go_wp2_with fail
  obtain ⟨W, hW⟩ : ∃ W, W = w.alloc (.cells #[.int .i64 c0, .int .i64 c1, .int .i64 c2, .int .i64 c3, .int .i64 c4, .int .i64 c5] 29) := ⟨_, rfl⟩
  have hb : Blk W w.heap.size 29 #[.int .i64 c0, .int .i64 c1, .int .i64 c2, .int .i64 c3, .int .i64 c4, .int .i64 c5] := by rw [hW]; exact Blk.new _ _ _
  have yW : Mod nowhere w W := by rw [hW]; exact (Mod.refl _ _).alloc _
  rw [← hW]
  clear hW
  (with_reducible refine (rcheck_yes c0 c1 c2 c3 c4 c5 _ HC.out).mono ?_)
  rintro e w1 ⟨rfl, hm1⟩
  have hb1 := hb.keep0 hm1
  have y1 := yW.call0 hm1
  clear hm1 yW hb
  have c_hb1 := hb1.cell; have f_hb1 := hb1.frozen; have l_hb1 := hb1.lt
  have q : ((n : Int) == c0) = false := beq_eq_false_iff_ne.2 hn
  go_wp2
  go_ret
  exact ⟨rfl, (by repeat (first | with_reducible exact Mod.refl _ _ | with_reducible assumption | with_reducible refine Mod.alloc ?_ _ | with_reducible refine Mod.drew ?_ | with_reducible refine Mod.drewN ?_ _ | with_reducible refine Mod.setCell ?_ (by first | exact .inl rfl | (left; (try unfold from_); show _ ≤ _; first | omega | (simp; done) | (simp; omega)) | (right; first | omega | (simp; done) | (simp; omega))) _ | with_reducible refine Mod.call0 ?_ (by with_reducible assumption) | with_reducible refine Mod.call ?_ (by with_reducible assumption) (by first | (rintro _ rfl; first | exact .inl rfl | (right; (first | omega | (simp; done) | (simp; omega)))) | (rintro _ (rfl | rfl) <;> (right; (first | omega | (simp; done) | (simp; omega)))))))⟩
theorem rnew_4 (hc : CfgOk c0 c1 c2 c3 c4 c5) (hn : (n : Int) = c0) (h50 : n ≤ 50) (h2 : c2 < 2 * (n : Int)) :
    Calls Try.prog 23 #[.agg #[.int .i64 c0, .int .i64 c1, .int .i64 c2, .int .i64 c3, .int .i64 c4, .int .i64 c5], .slice A n cap] w fun e w' => e = .returned (.int .i64 4) ∧ Mod nowhere w w' := by
  have HC := hide hc
  clear hc
  go_enter Try.func23, Try.ntmps23
  go_wp2_with fail
  obtain ⟨W, hW⟩ : ∃ W, W = w.alloc (.cells #[.int .i64 c0, .int .i64 c1, .int .i64 c2, .int .i64 c3, .int .i64 c4, .int .i64 c5] 29) := ⟨_, rfl⟩
  have hb : Blk W w.heap.size 29 #[.int .i64 c0, .int .i64 c1, .int .i64 c2, .int .i64 c3, .int .i64 c4, .int .i64 c5] := by rw [hW]; exact Blk.new _ _ _
  have yW : Mod nowhere w W := by rw [hW]; exact (Mod.refl _ _).alloc _
  rw [← hW]
  clear hW
  (with_reducible refine (rcheck_yes c0 c1 c2 c3 c4 c5 _ HC.out).mono ?_)
  rintro e w1 ⟨rfl, hm1⟩
  have hb1 := hb.keep0 hm1
  have y1 := yW.call0 hm1
  clear hm1 yW hb
  have c_hb1 := hb1.cell; have f_hb1 := hb1.frozen; have l_hb1 := hb1.lt
  go_wp2
  go_ret
  exact ⟨rfl, (by repeat (first | with_reducible exact Mod.refl _ _ | with_reducible assumption | with_reducible refine Mod.alloc ?_ _ | with_reducible refine Mod.drew ?_ | with_reducible refine Mod.drewN ?_ _ | with_reducible refine Mod.setCell ?_ (by first | exact .inl rfl | (left; (try unfold from_); show _ ≤ _; first | omega | (simp; done) | (simp; omega)) | (right; first | omega | (simp; done) | (simp; omega))) _ | with_reducible refine Mod.call0 ?_ (by with_reducible assumption) | with_reducible refine Mod.call ?_ (by with_reducible assumption) (by first | (rintro _ rfl; first | exact .inl rfl | (right; (first | omega | (simp; done) | (simp; omega)))) | (rintro _ (rfl | rfl) <;> (right; (first | omega | (simp; done) | (simp; omega)))))))⟩
theorem rnew_0 (hc : CfgOk c0 c1 c2 c3 c4 c5) (hn : (n : Int) = c0) (h50 : n ≤ 50) (h2 : 2 * (n : Int) ≤ c2) :
    Calls Try.prog 23 #[.agg #[.int .i64 c0, .int .i64 c1, .int .i64 c2, .int .i64 c3, .int .i64 c4, .int .i64 c5], .slice A n cap] w fun e w' => e = .returned (.int .i64 0) ∧ Mod nowhere w w' := by
  have HC := hide hc
  clear hc
  go_enter Try.func23, Try.ntmps23
  go_wp2_with fail
  obtain ⟨W, hW⟩ : ∃ W, W = w.alloc (.cells #[.int .i64 c0, .int .i64 c1, .int .i64 c2, .int .i64 c3, .int .i64 c4, .int .i64 c5] 29) := ⟨_, rfl⟩
  have hb : Blk W w.heap.size 29 #[.int .i64 c0, .int .i64 c1, .int .i64 c2, .int .i64 c3, .int .i64 c4, .int .i64 c5] := by rw [hW]; exact Blk.new _ _ _
  have yW : Mod nowhere w W := by rw [hW]; exact (Mod.refl _ _).alloc _
  rw [← hW]
  clear hW
  (with_reducible refine (rcheck_yes c0 c1 c2 c3 c4 c5 _ HC.out).mono ?_)
  rintro e w1 ⟨rfl, hm1⟩
  have hb1 := hb.keep0 hm1
  have y1 := yW.call0 hm1
  clear hm1 yW hb
  have c_hb1 := hb1.cell; have f_hb1 := hb1.frozen; have l_hb1 := hb1.lt
  go_wp2
  go_ret
  exact ⟨rfl, (by repeat (first | with_reducible exact Mod.refl _ _ | with_reducible assumption | with_reducible refine Mod.alloc ?_ _ | with_reducible refine Mod.drew ?_ | with_reducible refine Mod.drewN ?_ _ | with_reducible refine Mod.setCell ?_ (by first | exact .inl rfl | (left; (try unfold from_); show _ ≤ _; first | omega | (simp; done) | (simp; omega)) | (right; first | omega | (simp; done) | (simp; omega))) _ | with_reducible refine Mod.call0 ?_ (by with_reducible assumption) | with_reducible refine Mod.call ?_ (by with_reducible assumption) (by first | (rintro _ rfl; first | exact .inl rfl | (right; (first | omega | (simp; done) | (simp; omega)))) | (rintro _ (rfl | rfl) <;> (right; (first | omega | (simp; done) | (simp; omega)))))))⟩
set_option maxRecDepth 100000 in
theorem fnew_2 (v : Value) (hc : ¬ CfgOk c0 c1 c2 c3 c4 c5) :
    Calls Try.prog 9 #[.agg #[.int .i64 c0, .int .i64 c1, .int .i64 c2, .int .i64 c3, .int .i64 c4, .int .i64 c5], .slice A n cap, v] w fun e w' => e = .returned (.tuple #[.pointer none, .int .i64 2]) ∧ Mod nowhere w w' := by
  have HC := hide hc
  clear hc
  go_enter Try.func9, Try.ntmps9
  go_wp2_with fail
  obtain ⟨W, hW⟩ : ∃ W, W = w.alloc (.cells #[.int .i64 c0, .int .i64 c1, .int .i64 c2, .int .i64 c3, .int .i64 c4, .int .i64 c5] 29) := ⟨_, rfl⟩
  have hb : Blk W w.heap.size 29 #[.int .i64 c0, .int .i64 c1, .int .i64 c2, .int .i64 c3, .int .i64 c4, .int .i64 c5] := by rw [hW]; exact Blk.new _ _ _
  have yW : Mod nowhere w W := by rw [hW]; exact (Mod.refl _ _).alloc _
  rw [← hW]
  clear hW
  (with_reducible refine (check_no c0 c1 c2 c3 c4 c5 _ HC.out).mono ?_)
  rintro e w1 ⟨rfl, hm1⟩
  have hb1 := hb.keep0 hm1
  have y1 := yW.call0 hm1
  clear hm1 yW hb
  have c_hb1 := hb1.cell; have f_hb1 := hb1.frozen; have l_hb1 := hb1.lt
  go_wp2
  go_ret2
  exact ⟨rfl, (by repeat (first | with_reducible exact Mod.refl _ _ | with_reducible assumption | with_reducible refine Mod.alloc ?_ _ | with_reducible refine Mod.drew ?_ | with_reducible refine Mod.drewN ?_ _ | with_reducible refine Mod.setCell ?_ (by first | exact .inl rfl | (left; (try unfold from_); show _ ≤ _; first | omega | (simp; done) | (simp; omega)) | (right; first | omega | (simp; done) | (simp; omega))) _ | with_reducible refine Mod.call0 ?_ (by with_reducible assumption) | with_reducible refine Mod.call ?_ (by with_reducible assumption) (by first | (rintro _ rfl; first | exact .inl rfl | (right; (first | omega | (simp; done) | (simp; omega)))) | (rintro _ (rfl | rfl) <;> (right; (first | omega | (simp; done) | (simp; omega)))))))⟩
set_option maxRecDepth 100000 in
theorem fnew_3 (v : Value) (hc : CfgOk c0 c1 c2 c3 c4 c5) (hn : ¬ (n : Int) = c0) :
    Calls Try.prog 9 #[.agg #[.int .i64 c0, .int .i64 c1, .int .i64 c2, .int .i64 c3, .int .i64 c4, .int .i64 c5], .slice A n cap, v] w fun e w' => e = .returned (.tuple #[.pointer none, .int .i64 3]) ∧ Mod nowhere w w' := by
  have HC := hide hc
  clear hc
  go_enter Try.func9, Try.ntmps9
  go_wp2_with fail
  obtain ⟨W, hW⟩ : ∃ W, W = w.alloc (.cells #[.int .i64 c0, .int .i64 c1, .int .i64 c2, .int .i64 c3, .int .i64 c4, .int .i64 c5] 29) := ⟨_, rfl⟩
  have hb : Blk W w.heap.size 29 #[.int .i64 c0, .int .i64 c1, .int .i64 c2, .int .i64 c3, .int .i64 c4, .int .i64 c5] := by rw [hW]; exact Blk.new _ _ _
  have yW : Mod nowhere w W := by rw [hW]; exact (Mod.refl _ _).alloc _
  rw [← hW]
  clear hW
  (with_reducible refine (check_yes c0 c1 c2 c3 c4 c5 _ HC.out).mono ?_)
  rintro e w1 ⟨rfl, hm1⟩
  have hb1 := hb.keep0 hm1
  have y1 := yW.call0 hm1
  clear hm1 yW hb
  have c_hb1 := hb1.cell; have f_hb1 := hb1.frozen; have l_hb1 := hb1.lt
  have q : ((n : Int) == c0) = false := beq_eq_false_iff_ne.2 hn
  go_wp2
  go_ret2
  exact ⟨rfl, (by repeat (first | with_reducible exact Mod.refl _ _ | with_reducible assumption | with_reducible refine Mod.alloc ?_ _ | with_reducible refine Mod.drew ?_ | with_reducible refine Mod.drewN ?_ _ | with_reducible refine Mod.setCell ?_ (by first | exact .inl rfl | (left; (try unfold from_); show _ ≤ _; first | omega | (simp; done) | (simp; omega)) | (right; first | omega | (simp; done) | (simp; omega))) _ | with_reducible refine Mod.call0 ?_ (by with_reducible assumption) | with_reducible refine Mod.call ?_ (by with_reducible assumption) (by first | (rintro _ rfl; first | exact .inl rfl | (right; (first | omega | (simp; done) | (simp; omega)))) | (rintro _ (rfl | rfl) <;> (right; (first | omega | (simp; done) | (simp; omega)))))))⟩
end
set_option maxHeartbeats 2000000 in
theorem cnew_full (a n cap : Nat) (A : Option Addr) (most : Int) (w : World) (h1 : 1 ≤ n) (h8 : n ≤ 8) (h2 : most < 2 * (n : Int)) (h0 : 0 ≤ most) (h4 : most ≤ 4096) (ha : Arn_rec w a a 0 most []) :
    Calls Try.prog 49 #[.pointer (some ⟨a, 0, none⟩), .slice A n cap] w fun e w' => e = .returned (.tuple #[.pointer none, .int .i64 4]) ∧ Mod nowhere w w' := by
  have l_a := ha.lt
  have z1 : decide (n < 1) = false := by simp; omega
  have z2 : decide (8 < n) = false := by simp; omega
  go_enter Try.func49, Try.ntmps49
  go_wp2_with (go_at_call 27; (with_reducible refine (aleft_rec a a 0 most [] _ (by exact (by repeat (first | with_reducible assumption | with_reducible apply Own.drew | with_reducible apply Own.drewN | with_reducible apply Own.alloc | with_reducible apply Own.keep0 (hm := by with_reducible assumption) | with_reducible apply Own.keep (hm := by with_reducible assumption) (hg := by first | omega | exact not_two (by omega) (by omega)) (hr := by first | omega | exact not_two (by omega) (by omega)) | with_reducible apply Own.far (hg := by first | omega | (simp; omega)) (hr := by first | omega | (simp; omega))))) (by omega) (by omega)).mono ?_); rintro e w5 ⟨rfl, hbw5⟩; have hzw5 := hbw5.size; (try simp at hzw5); skip; skip)
  go_ret2
  exact ⟨rfl, (by repeat (first | with_reducible exact Mod.refl _ _ | with_reducible assumption | with_reducible refine Mod.alloc ?_ _ | with_reducible refine Mod.drew ?_ | with_reducible refine Mod.drewN ?_ _ | with_reducible refine Mod.setCell ?_ (by first | exact .inl rfl | (left; (try unfold from_); show _ ≤ _; first | omega | (simp; done) | (simp; omega)) | (right; first | omega | (simp; done) | (simp; omega))) _ | with_reducible refine Mod.call0 ?_ (by with_reducible assumption) | with_reducible refine Mod.call ?_ (by with_reducible assumption) (by first | (rintro _ rfl; first | exact .inl rfl | (right; (first | omega | (simp; done) | (simp; omega)))) | (rintro _ (rfl | rfl) <;> (right; (first | omega | (simp; done) | (simp; omega)))))))⟩
set_option maxRecDepth 100000 in
set_option maxHeartbeats 8000000 in
theorem fnew_4 (ld : List Int) (A : Option Addr) (cap n : Nat) (D : Option Addr) (nd cd : Nat) (c1 T : Nat) (c2 c3 c4 c5 : Int) (w : World) (hT : mgrT c4 = some T) (hc : CfgOk n c1 c2 c3 c4 c5) (h2 : c2 < 2 * (n : Int)) (hd : Reads w w.heap.size 1 D nd (ld.map (Value.int .u8))) (hld : ld.length = nd) (hnd : nd ≤ 1000) :
    Calls Try.prog 9 #[.agg #[.int .i64 n, .int .i64 c1, .int .i64 c2, .int .i64 c3, .int .i64 c4, .int .i64 c5], .slice A n cap, .slice D nd cd] w fun e w' => e = .returned (.tuple #[.pointer none, .int .i64 4]) ∧ Mod nowhere w w' := by
  have HD := hide hd
  have HC := hide hc
  have HLD := hide hld
  have hmk := make_ints c1 (by have := hc.2.1; omega)
  have HI4 := hide (show I64 c4 by have := hc.2.2.2.2.1; unfold I64; omega)
  have HT := hide hT
  clear hd hc hld hT
  go_enter Try.func9, Try.ntmps9
  go_wp2_with fail
  (with_reducible refine (check_yes n c1 c2 c3 c4 c5 _ HC.out).mono ?_)
  rintro e w1 ⟨rfl, hm1⟩
  have y1 : Mod nowhere w w1 := (by repeat (first | with_reducible exact Mod.refl _ _ | with_reducible assumption | with_reducible refine Mod.alloc ?_ _ | with_reducible refine Mod.drew ?_ | with_reducible refine Mod.drewN ?_ _ | with_reducible refine Mod.setCell ?_ (by first | exact .inl rfl | (left; (try unfold from_); show _ ≤ _; first | omega | (simp; done) | (simp; omega)) | (right; first | omega | (simp; done) | (simp; omega))) _ | with_reducible refine Mod.call0 ?_ (by with_reducible assumption) | with_reducible refine Mod.call ?_ (by with_reducible assumption) (by first | (rintro _ rfl; first | exact .inl rfl | (right; (first | omega | (simp; done) | (simp; omega)))) | (rintro _ (rfl | rfl) <;> (right; (first | omega | (simp; done) | (simp; omega)))))))
  have hz1 := hm1.size
  have lp : w.heap.size < w1.heap.size := by simp at hz1; omega
  have hcfg : Blk w1 w.heap.size 29 #[.int .i64 n, .int .i64 c1, .int .i64 c2, .int .i64 c3, .int .i64 c4, .int .i64 c5] := Blk.keep0 (Blk.new _ _ _) hm1
  have c_hcfg := hcfg.cell; have f_hcfg := hcfg.frozen; have l_hcfg := hcfg.lt
  go_wp2_with fail
  go_cut [8] (fun s8 wx => ∃ (p : Nat) (Ac : Option Addr) (cc rp : Nat), s8 = .pointer (some ⟨p, 0, none⟩) ∧ Blk wx p 86 #[.pointer none, .pointer none, .pointer none, .pointer none, .pointer none, .int .i64 n, .int .i64 c1, .int .i64 c2, .int .i64 c3, .int .i64 c4, .int .i64 c5, .iface T (.agg #[]), .slice Ac nd cc, .slice (some ⟨rp, 0, none⟩) c1 c1, .slice none 0 0] ∧ LocRow wx w.heap.size 5 1 (.slice Ac nd cc) nd (ld.map (Value.int .u8)) ∧ Blk wx rp 3 (madeCells #[.int .i64 0] c1) ∧ Blk wx w.heap.size 29 #[.int .i64 n, .int .i64 c1, .int .i64 c2, .int .i64 c3, .int .i64 c4, .int .i64 c5] ∧ w.heap.size < p ∧ w.heap.size < rp ∧ Mod nowhere w wx)
  case first =>
    go_region_held3 (fun w' => w'.cell? ⟨w.heap.size, 0, none⟩ = some (.int .i64 n) ∧ w'.cell? ⟨w.heap.size, 1, none⟩ = some (.int .i64 c1) ∧ w'.cell? ⟨w.heap.size, 2, none⟩ = some (.int .i64 c2) ∧ w'.cell? ⟨w.heap.size, 3, none⟩ = some (.int .i64 c3) ∧ w'.cell? ⟨w.heap.size, 4, none⟩ = some (.int .i64 c4) ∧ w'.cell? ⟨w.heap.size, 5, none⟩ = some (.int .i64 c5) ∧ Mod nowhere w1 w') ((repeat' apply And.intro) <;> first | (simp [*]; done) | (go_simp; done) | exact (by repeat (first | with_reducible exact Mod.refl _ _ | with_reducible assumption | with_reducible refine Mod.alloc ?_ _ | with_reducible refine Mod.drew ?_ | with_reducible refine Mod.drewN ?_ _ | with_reducible refine Mod.setCell ?_ (by first | exact .inl rfl | (left; (try unfold from_); show _ ≤ _; first | omega | (simp; done) | (simp; omega)) | (right; first | omega | (simp; done) | (simp; omega))) _ | with_reducible refine Mod.call0 ?_ (by with_reducible assumption) | with_reducible refine Mod.call ?_ (by with_reducible assumption) (by first | (rintro _ rfl; first | exact .inl rfl | (right; (first | omega | (simp; done) | (simp; omega)))) | (rintro _ (rfl | rfl) <;> (right; (first | omega | (simp; done) | (simp; omega)))))))) (first
    | (go_at_call 43; (with_reducible refine (mgr_callsT c4 T _ HI4.out HT.out).mono ?_); rintro e wm ⟨rfl, hbwm⟩; have hzwm := hbwm.size; (try simp at hzwm); (try (have ltwm0 : w.heap.size < wm.heap.size := (by omega); have lcwm0 := fun o => hbwm.cell (b := w.heap.size) o (by first | omega | (simp; done) | (simp; omega)) (id); have lfwm0 := fun o => hbwm.frozen (b := w.heap.size) o (by first | omega | (simp; done) | (simp; omega)) (id))); skip)
    | (go_at_call 44; (with_reducible refine (clone_callsS D nd cd w.heap.size ld _ (HD.out.keepMod (Nat.le_refl _) ((by repeat (first | with_reducible exact Mod.refl _ _ | with_reducible assumption | with_reducible refine Mod.alloc ?_ _ | with_reducible refine Mod.drew ?_ | with_reducible refine Mod.drewN ?_ _ | with_reducible refine Mod.setCell ?_ (by first | exact .inl rfl | (left; (try unfold from_); show _ ≤ _; first | omega | (simp; done) | (simp; omega)) | (right; first | omega | (simp; done) | (simp; omega))) _ | with_reducible refine Mod.call0 ?_ (by with_reducible assumption) | with_reducible refine Mod.call ?_ (by with_reducible assumption) (by first | (rintro _ rfl; first | exact .inl rfl | (right; (first | omega | (simp; done) | (simp; omega)))) | (rintro _ (rfl | rfl) <;> (right; (first | omega | (simp; done) | (simp; omega))))))) : Mod nowhere w _)) (Mod.size (S := nowhere) (by repeat (first | with_reducible exact Mod.refl _ _ | with_reducible assumption | with_reducible refine Mod.alloc ?_ _ | with_reducible refine Mod.drew ?_ | with_reducible refine Mod.drewN ?_ _ | with_reducible refine Mod.setCell ?_ (by first | exact .inl rfl | (left; (try unfold from_); show _ ≤ _; first | omega | (simp; done) | (simp; omega)) | (right; first | omega | (simp; done) | (simp; omega))) _ | with_reducible refine Mod.call0 ?_ (by with_reducible assumption) | with_reducible refine Mod.call ?_ (by with_reducible assumption) (by first | (rintro _ rfl; first | exact .inl rfl | (right; (first | omega | (simp; done) | (simp; omega)))) | (rintro _ (rfl | rfl) <;> (right; (first | omega | (simp; done) | (simp; omega)))))))) HLD.out hnd).mono ?_); rintro e wc ⟨Ac, cc, rfl, hLc, hbwc⟩; have hzwc := hbwc.size; (try simp at hzwc); (try (have ltwc0 : w.heap.size < wc.heap.size := (by omega); have lcwc0 := fun o => hbwc.cell (b := w.heap.size) o (by first | omega | (simp; done) | (simp; omega)) (id); have lfwc0 := fun o => hbwc.frozen (b := w.heap.size) o (by first | omega | (simp; done) | (simp; omega)) (id)))))
    all_goals
      go_wp2_with fail
      go_meet
    all_goals exact ⟨_, _, _, _, rfl, (by repeat (first | with_reducible assumption | with_reducible apply Blk.new | with_reducible exact Blk.newAt (by first | rfl | (simp; done) | (simp; omega)) | with_reducible apply Blk.alloc | with_reducible apply Blk.drew | with_reducible apply Blk.drewN | with_reducible apply Blk.keep0 (hm := by with_reducible assumption) | with_reducible apply Blk.keep (hm := by with_reducible assumption) (hg := by first | omega | exact not_two (by omega) (by omega)) | with_reducible apply Blk.far (hp := by first | omega | (simp; done) | (simp; omega)) | with_reducible apply Blk.set1 | rfl)), (hLc.keep0 ((by repeat (first | with_reducible exact Mod.refl _ _ | with_reducible assumption | with_reducible refine Mod.alloc ?_ _ | with_reducible refine Mod.drew ?_ | with_reducible refine Mod.drewN ?_ _ | with_reducible refine Mod.setCell ?_ (by first | exact .inl rfl | (left; (try unfold from_); show _ ≤ _; first | omega | (simp; done) | (simp; omega)) | (right; first | omega | (simp; done) | (simp; omega))) _ | with_reducible refine Mod.call0 ?_ (by with_reducible assumption) | with_reducible refine Mod.call ?_ (by with_reducible assumption) (by first | (rintro _ rfl; first | exact .inl rfl | (right; (first | omega | (simp; done) | (simp; omega)))) | (rintro _ (rfl | rfl) <;> (right; (first | omega | (simp; done) | (simp; omega))))))) : Mod nowhere wc _)).weaken (Mod.size (S := nowhere) ((by repeat (first | with_reducible exact Mod.refl _ _ | with_reducible assumption | with_reducible refine Mod.alloc ?_ _ | with_reducible refine Mod.drew ?_ | with_reducible refine Mod.drewN ?_ _ | with_reducible refine Mod.setCell ?_ (by first | exact .inl rfl | (left; (try unfold from_); show _ ≤ _; first | omega | (simp; done) | (simp; omega)) | (right; first | omega | (simp; done) | (simp; omega))) _ | with_reducible refine Mod.call0 ?_ (by with_reducible assumption) | with_reducible refine Mod.call ?_ (by with_reducible assumption) (by first | (rintro _ rfl; first | exact .inl rfl | (right; (first | omega | (simp; done) | (simp; omega)))) | (rintro _ (rfl | rfl) <;> (right; (first | omega | (simp; done) | (simp; omega))))))) : Mod nowhere w _)), (by repeat (first | with_reducible assumption | with_reducible apply Blk.new | with_reducible exact Blk.newAt (by first | rfl | (simp; done) | (simp; omega)) | with_reducible apply Blk.alloc | with_reducible apply Blk.drew | with_reducible apply Blk.drewN | with_reducible apply Blk.keep0 (hm := by with_reducible assumption) | with_reducible apply Blk.keep (hm := by with_reducible assumption) (hg := by first | omega | exact not_two (by omega) (by omega)) | with_reducible apply Blk.far (hp := by first | omega | (simp; done) | (simp; omega)) | with_reducible apply Blk.set1 | rfl)), (by repeat (first | with_reducible assumption | with_reducible apply Blk.new | with_reducible exact Blk.newAt (by first | rfl | (simp; done) | (simp; omega)) | with_reducible apply Blk.alloc | with_reducible apply Blk.drew | with_reducible apply Blk.drewN | with_reducible apply Blk.keep0 (hm := by with_reducible assumption) | with_reducible apply Blk.keep (hm := by with_reducible assumption) (hg := by first | omega | exact not_two (by omega) (by omega)) | with_reducible apply Blk.far (hp := by first | omega | (simp; done) | (simp; omega)) | with_reducible apply Blk.set1 | rfl)), by first | omega | (simp; omega), by first | omega | (simp; omega), (by repeat (first | with_reducible exact Mod.refl _ _ | with_reducible assumption | with_reducible refine Mod.alloc ?_ _ | with_reducible refine Mod.drew ?_ | with_reducible refine Mod.drewN ?_ _ | with_reducible refine Mod.setCell ?_ (by first | exact .inl rfl | (left; (try unfold from_); show _ ≤ _; first | omega | (simp; done) | (simp; omega)) | (right; first | omega | (simp; done) | (simp; omega))) _ | with_reducible refine Mod.call0 ?_ (by with_reducible assumption) | with_reducible refine Mod.call ?_ (by with_reducible assumption) (by first | (rintro _ rfl; first | exact .inl rfl | (right; (first | omega | (simp; done) | (simp; omega)))) | (rintro _ (rfl | rfl) <;> (right; (first | omega | (simp; done) | (simp; omega)))))))⟩
  case rest =>
    obtain ⟨p, Ac, cc, rp, rfl, hp, hdv, hrp, hcf, lp1, lp2, hmc⟩ := hcut
    clear hcfg c_hcfg f_hcfg l_hcfg hm1 hz1 y1 hmk
    have c_hp := hp.cell; have f_hp := hp.frozen; have l_hp := hp.lt; have c_hcf := hcf.cell; have f_hcf := hcf.frozen; have l_hcf := hcf.lt
    have hlw := hmc.size
    have q2 := HC.out.2.2.1
    have q3 := HC.out.2.2.2.1
    have q1 := HC.out.2.1
    have q0 : 1 ≤ (n : Int) ∧ (n : Int) ≤ 8 := (show (1 ≤ (n : Int) ∧ (n : Int) ≤ 8) ∧ _ from HC.out).1
    have ha1 := Arn.new wc 102 62 9 c2
    go_wp2_with (go_at_call 45; (with_reducible refine (anew_rec c2 _ q2.1 q2.2).mono ?_); rintro e w' ⟨rfl, rfl⟩)
    obtain ⟨a, hae⟩ : ∃ a, a = wc.heap.size := ⟨_, rfl⟩
    rw [← hae]
    obtain ⟨w2, hw2⟩ : ∃ w2, w2 = (wc.setCell ⟨p, 0, none⟩ (.pointer (some ⟨a, 0, none⟩))).alloc (.cells #[.slice none 0 0, .int .i64 c2] 102) := ⟨_, rfl⟩
    rw [← hw2]
    have hp2 : Blk w2 p 86 #[.pointer (some ⟨a, 0, none⟩), .pointer none, .pointer none, .pointer none, .pointer none, .int .i64 n, .int .i64 c1, .int .i64 c2, .int .i64 c3, .int .i64 c4, .int .i64 c5, .iface T (.agg #[]), .slice Ac nd cc, .slice (some ⟨rp, 0, none⟩) c1 c1, .slice none 0 0] := by rw [hw2]; exact Blk.alloc (hp.set1 rfl) _
    have ha2 : Arn_rec w2 a a 0 c2 [] := by
      have := Arn.new (wc.setCell ⟨p, 0, none⟩ (.pointer (some ⟨a, 0, none⟩))) 102 62 9 c2
      rw [hw2, hae]
      rw [hae] at this
      simpa using this
    have m02 : Mod (· = p) wc w2 := by rw [hw2]; exact (Mod.setCell (S := (· = p)) (Mod.refl _ _) (.inl rfl) _).alloc _
    have hcf2 : Blk w2 w.heap.size 29 #[.int .i64 n, .int .i64 c1, .int .i64 c2, .int .i64 c3, .int .i64 c4, .int .i64 c5] := Blk.keep hcf m02 (by omega)
    have hrp2 := Blk.keep hrp m02 (Blk.ne_ hrp hp (by decide))
    have hdv2 := hdv.far m02 (fun b hb e => by obtain ⟨-, cur, hc⟩ := hdv.blk b hb; exact Blk.ne_ hc hp (by decide) e)
    have y2 : Mod nowhere w w2 := hmc.call m02 (fun i e => .inr (by omega))
    have lap : a ≠ p := by have := hp.lt; omega
    have law : w.heap.size < a := by omega
    clear hp hcf hrp hdv hmc m02 hw2 hae ha1 c_hp f_hp l_hp c_hcf f_hcf l_hcf
    have z2 := y2.size
    have c_hp2 := hp2.cell; have f_hp2 := hp2.frozen; have l_hp2 := hp2.lt; have c_hcf2 := hcf2.cell; have f_hcf2 := hcf2.frozen; have l_hcf2 := hcf2.lt
    (with_reducible refine (dnew_calls a w2).mono ?_)
    rintro e w3 ⟨rfl, ht3, hpm3, hm3⟩
    have z3 := hm3.size
    have hp3 := hp2.keep0 hm3
    have hcf3 := hcf2.keep0 hm3
    have y3 : Mod nowhere w w3 := y2.call0 hm3
    clear c_hp2 f_hp2 l_hp2 c_hcf2 f_hcf2 l_hcf2
    have c_hp3 := hp3.cell; have f_hp3 := hp3.frozen; have l_hp3 := hp3.lt; have c_hcf3 := hcf3.cell; have f_hcf3 := hcf3.frozen; have l_hcf3 := hcf3.lt
    have lt3 := ht3.lt
    have ltp : w2.heap.size + 1 ≠ p := by have := hp2.lt; omega
    obtain ⟨tb, htb⟩ : ∃ tb, tb = w2.heap.size + 1 := ⟨_, rfl⟩
    obtain ⟨mp, hmp⟩ : ∃ mp, mp = w2.heap.size := ⟨_, rfl⟩
    rw [← htb] at ht3 ltp lt3 ⊢
    rw [← hmp] at ht3 hpm3
    have ntb : w.heap.size < tb ∧ w.heap.size < mp ∧ tb ≠ mp ∧ mp ≠ p := by have := hp2.lt; omega
    have HM3 := hide hm3
    clear htb hmp z2 hm3
    go_wp2_with (go_at_call 47; (with_reducible refine (tnew_calls c3 _ q3.1 q3.2).mono ?_); rintro e w' ⟨rfl, rfl⟩)
    obtain ⟨tk, htk⟩ : ∃ tk, tk = w3.heap.size := ⟨_, rfl⟩
    rw [← htk]
    obtain ⟨w4, hw4⟩ : ∃ w4, w4 = ((w3.setCell ⟨p, 1, none⟩ (.pointer (some ⟨tb, 0, none⟩))).setCell ⟨p, 3, none⟩ (.pointer (some ⟨tk, 0, none⟩))).alloc (.cells #[.int .i64 0, .int .i64 c3] 110) := ⟨_, rfl⟩
    rw [← hw4]
    have hp4 : Blk w4 p 86 #[.pointer (some ⟨a, 0, none⟩), .pointer (some ⟨tb, 0, none⟩), .pointer none, .pointer (some ⟨tk, 0, none⟩), .pointer none, .int .i64 n, .int .i64 c1, .int .i64 c2, .int .i64 c3, .int .i64 c4, .int .i64 c5, .iface T (.agg #[]), .slice Ac nd cc, .slice (some ⟨rp, 0, none⟩) c1 c1, .slice none 0 0] := by rw [hw4]; exact Blk.alloc ((hp3.set1 rfl).set1 rfl) _
    have htk4 : IsTick w4 tk 0 c3 := by rw [hw4, htk]; exact Blk.newAt (by simp)
    have m34 : Mod (· = p) w3 w4 := by rw [hw4]; exact (Mod.setCell (S := (· = p)) (Mod.setCell (S := (· = p)) (Mod.refl _ _) (.inl rfl) _) (.inl rfl) _).alloc _
    have ha4 : Arn_rec w4 a a 0 c2 [] := Own.keep (Own.keep0 ha2 HM3.out) m34 lap lap
    have ht4 : IsTab w4 tb a mp := Blk.keep ht3 m34 ltp
    have hpm4 := hpm3.keep m34 ntb.2.2.2
    have hcf4 : Blk w4 w.heap.size 29 #[.int .i64 n, .int .i64 c1, .int .i64 c2, .int .i64 c3, .int .i64 c4, .int .i64 c5] := Blk.keep hcf3 m34 (by omega)
    have hrp4 := Blk.keep (hrp2.keep0 HM3.out) m34 (Blk.ne_ hrp2 hp2 (by decide))
    have hdv4 := (hdv2.keep0 HM3.out).far m34 (fun b hb e => by obtain ⟨-, cur, hc⟩ := hdv2.blk b hb; exact Blk.ne_ hc hp2 (by decide) e)
    have y4 : Mod nowhere w w4 := y3.call m34 (fun i e => .inr (by omega))
    have ltk : w.heap.size < tk := by omega
    have HP2 := hide hp2
    clear hp2 hp3 hcf2 hcf3 ha2 hrp2 hdv2 ht3 hpm3 m34 hw4 htk c_hp3 f_hp3 l_hp3 c_hcf3 f_hcf3 l_hcf3
    have z4 := y4.size
    have c_hp4 := hp4.cell; have f_hp4 := hp4.frozen; have l_hp4 := hp4.lt; have c_hcf4 := hcf4.cell; have f_hcf4 := hcf4.frozen; have l_hcf4 := hcf4.lt
    (with_reducible refine (gnew_calls c1 w4 (by omega) (by omega)).mono ?_)
    rintro e w5 ⟨gt, gw, gp, rfl, hg5, lg1, lg2, lg3, hm5⟩
    have hp5 := hp4.keep0 hm5
    have hcf5 := hcf4.keep0 hm5
    have y5 : Mod nowhere w w5 := y4.call0 hm5
    have z5 := hm5.size
    clear c_hp4 f_hp4 l_hp4 c_hcf4 f_hcf4 l_hcf4
    have c_hp5 := hp5.cell; have f_hp5 := hp5.frozen; have l_hp5 := hp5.lt; have c_hcf5 := hcf5.cell; have f_hcf5 := hcf5.frozen; have l_hcf5 := hcf5.lt
    have hp4l := hp4.lt
    have hrp4l := hrp4.lt
    have ha4l := ha4.lt
    go_wp2_with fail
    obtain ⟨w6, hw6⟩ : ∃ w6, w6 = w5.setCell ⟨p, 4, none⟩ (.pointer (some ⟨gt, 0, none⟩)) := ⟨_, rfl⟩
    rw [← hw6]
    have hp6 : Blk w6 p 86 #[.pointer (some ⟨a, 0, none⟩), .pointer (some ⟨tb, 0, none⟩), .pointer none, .pointer (some ⟨tk, 0, none⟩), .pointer (some ⟨gt, 0, none⟩), .int .i64 n, .int .i64 c1, .int .i64 c2, .int .i64 c3, .int .i64 c4, .int .i64 c5, .iface T (.agg #[]), .slice Ac nd cc, .slice (some ⟨rp, 0, none⟩) c1 c1, .slice none 0 0] := by rw [hw6]; exact hp5.set1 rfl
    have m56 : Mod (· = p) w5 w6 := by rw [hw6]; exact Mod.setCell (S := (· = p)) (Mod.refl _ _) (.inl rfl) _
    have ha6 : Arn_rec w6 a a 0 c2 [] := Own.keep (Own.keep0 ha4 hm5) m56 lap lap
    have ht6 : IsTab w6 tb a mp := Blk.keep (Blk.keep0 ht4 hm5) m56 ltp
    have hpm6 := (hpm4.keep0 hm5).keep m56 ntb.2.2.2
    have htk6 : IsTick w6 tk 0 c3 := Blk.keep (Blk.keep0 htk4 hm5) m56 (Blk.ne_ htk4 hp4 (by decide))
    have hg6 := hg5.keep m56 (by omega) (by omega) (by omega)
    have hrp6 := Blk.keep (hrp4.keep0 hm5) m56 (Blk.ne_ hrp4 hp4 (by decide))
    have hdv6 := (hdv4.keep0 hm5).far m56 (fun b hb e => by obtain ⟨-, cur, hc⟩ := hdv4.blk b hb; exact Blk.ne_ hc hp4 (by decide) e)
    have y6 : Mod nowhere w w6 := y5.call m56 (fun i e => .inr (by omega))
    have ne6 : tb ≠ a ∧ mp ≠ a ∧ tk ≠ a ∧ gt ≠ a ∧ gw ≠ a ∧ gp ≠ a ∧ rp ≠ a ∧ p ≠ a := ⟨by obtain ⟨A0, k0, hA, -⟩ := ha4; exact Blk.ne_ ht4 hA (by decide), by obtain ⟨A0, k0, hA, -⟩ := ha4; exact hpm4.ne_blk hA, by obtain ⟨A0, k0, hA, -⟩ := ha4; exact Blk.ne_ htk4 hA (by decide), by omega, by omega, by omega, by obtain ⟨A0, k0, hA, -⟩ := ha4; exact Blk.ne_ hrp4 hA (by decide), fun e => lap e.symm⟩
    have z6 := y6.size
    clear hp4 hp5 hcf4 hcf5 ha4 hrp4 hdv4 ht4 hpm4 htk4 hg5 m56 hw6 c_hp5 f_hp5 l_hp5 c_hcf5 f_hcf5 l_hcf5
    have c_hp6 := hp6.cell; have f_hp6 := hp6.frozen; have l_hp6 := hp6.lt
    (with_reducible refine (cnew_full a n cap A c2 w6 (by omega) (by omega) h2 (by omega) q2.2 ha6).mono ?_)
    rintro e w7 ⟨rfl, hm7⟩
    go_wp2
    go_ret2
    exact ⟨rfl, y6.call0 hm7⟩

end Go.Proofs.Ytcfpgecchappoaa
