/- floor.New. -/
import Derived.Test.YtcfpgecchappoaaFloorB
import Derived.Test.YtcfpgecchappoaaGateNew
import Derived.Test.YtcfpgecchappoaaTick
import Derived.Test.YtcfpgecchappoaaCells10
import Derived.Deep.RegionWith
import Derived.Deep.RegionHeld3
import Derived.Deep.DeepCutAuto
namespace Go.Proofs.Ytcfpgecchappoaa
open Go.RowKit

theorem ainfo_int : (Try.prog.info? 3).map (fun i => (i.zero, i.size, i.bytes)) = some (some (.int .i64 0), 1, 8) := by kernel_rfl
theorem make_ints (n : Nat) (hn : n ≤ 100) (W : World) : (Instr.makeSlice 82 (.int .i64 n) (.int .i64 n)).run Try.prog W = .ok (.slice (some ⟨W.heap.size, 0, none⟩) n n) (W.alloc (.cells (madeCells #[.int .i64 0] n) 3)) := by
  obtain ⟨i0, hi, hz0, hz1, hz2⟩ := info_parts ainfo_int
  have := run_make (P := Try.prog) W 82 3 i0 (.int .i64 0) Try.underlying82 hi hz0 .i64 .i64 n n (by omega) (Int.le_refl _) (by rw [hz2]; omega) (by omega)
  simp only [Int.toNat_natCast, hz1, Nat.mul_one] at this
  exact this

theorem LocRow.weaken {w : World} {H H' : Nat} {E : TypeId} {size : Nat} {v : Value} {n : Nat} {cs : List Value} (h : LocRow w H E size v n cs) (hH : H' ≤ H) : LocRow w H' E size v n cs := by
  obtain ⟨A, cap, rfl, ho, hA⟩ := h
  exact ⟨A, cap, rfl, ho, hA.imp id fun ⟨q, h1, h2⟩ => ⟨q, h1, by omega⟩⟩
theorem LocRow.blk {w : World} {H : Nat} {E : TypeId} {size : Nat} {v : Value} {n : Nat} {cs : List Value} (h : LocRow w H E size v n cs) : ∀ b, some b = v.ownBlock → H ≤ b ∧ ∃ cur, Blk w b E cur := by
  intro b hb
  obtain ⟨A, cap, rfl, ho, hA⟩ := h
  rcases hA with ⟨rfl, rfl, rfl⟩ | ⟨q, rfl, hq⟩
  · simp [Value.ownBlock] at hb
  · simp [Value.ownBlock] at hb
    subst hb
    obtain ⟨-, h | ⟨q', cap', cur, h1, -, h3, -⟩⟩ := ho
    · cases h.1
    · injection h1 with h1 _ _
      obtain rfl : b = q' := by injection h1 with h1; injection h1
      exact ⟨hq, cur, h3⟩
theorem LocRow.far {S : Nat → Prop} {w w' : World} {H : Nat} {E : TypeId} {size : Nat} {v : Value} {n : Nat} {cs : List Value} (h : LocRow w H E size v n cs) (hm : Mod S w w') (hS : ∀ b, some b = v.ownBlock → ¬ S b) : LocRow w' H E size v n cs := by
  obtain ⟨A, cap, rfl, ho, hA⟩ := h
  refine ⟨A, cap, rfl, ?_, hA⟩
  rcases hA with ⟨rfl, rfl, rfl⟩ | ⟨q, rfl, hq⟩
  · exact ⟨ho.1, .inl ⟨rfl, rfl⟩⟩
  · exact owns_keep ho hm (hS q rfl)
theorem clone_callsS (A : Option Addr) (n c B : Nat) (l : List Int) (w : World) (hr : Reads w B 1 A n (l.map (Value.int .u8))) (hB : B ≤ w.heap.size) (hl : l.length = n) (hn : n ≤ 1000) :
    Calls Try.prog 44 #[.slice A n c] w fun e w' => ∃ A' c', e = .returned (.slice A' n c') ∧ LocRow w' w.heap.size 5 1 (.slice A' n c') n (l.map (Value.int .u8)) ∧ Mod nowhere w w' :=
  (clone_calls A n c l w (hr.more hB) hl hn).mono (by rintro e w' ⟨z, rfl, hL, hm⟩; obtain ⟨A', c', rfl, h⟩ := hL; exact ⟨A', c', rfl, ⟨A', c', rfl, h⟩, hm⟩)
theorem mgr_callsT (n : Int) (T : Nat) (w : World) (hi : I64 n) (hT : mgrT n = some T) :
    Calls Try.prog 43 #[.int .i64 n] w fun e w' => e = .returned (.iface T (.agg #[])) ∧ Mod nowhere w w' := by
  have := mgr_calls n w hi
  rwa [hT] at this
theorem mgrT_some {c : Int} (h : 1 ≤ c ∧ c ≤ 4) : ∃ T, mgrT c = some T := by
  have : c = 1 ∨ c = 2 ∨ c = 3 ∨ c = 4 := by omega
  rcases this with rfl | rfl | rfl | rfl <;> exact ⟨_, rfl⟩
def FloorNew (w w' : World) (n c1 nd : Nat) (c2 c3 c4 c5 : Int) (T : Nat) (l ld : List Int) (p : Nat) : Prop :=
  ∃ (K : KD) (r tk g gw gp rp cc : Nat) (Ac : Option Addr) (cs : List Value), Blk w' p 86 #[.pointer (some ⟨K.a, 0, none⟩), .pointer (some ⟨K.t, 0, none⟩), .pointer (some ⟨K.c, 0, none⟩), .pointer (some ⟨tk, 0, none⟩), .pointer (some ⟨g, 0, none⟩), .int .i64 n, .int .i64 c1, .int .i64 c2, .int .i64 c3, .int .i64 c4, .int .i64 c5, .iface T (.agg #[]), .slice Ac nd cc, .slice (some ⟨rp, 0, none⟩) c1 c1, .slice none 0 0] ∧
    K.k = n ∧ K.most = c2 ∧ Sys w' w.heap.size K r (2 * n) cs (fun i => 2 * i + 1) 0 (fun _ => none) (fun _ => 0) (fun _ => 0) ∧ First l n cs ∧ IsTick w' tk 0 c3 ∧ IsGate w' g gw gp c1 0 (List.replicate c1 0) ∧ LocRow w' w.heap.size 5 1 (.slice Ac nd cc) nd (ld.map (Value.int .u8)) ∧ Blk w' rp 3 (madeCells #[.int .i64 0] c1) ∧
    (w.heap.size ≤ p ∧ w.heap.size ≤ tk ∧ w.heap.size ≤ g ∧ w.heap.size ≤ gw ∧ w.heap.size ≤ gp ∧ w.heap.size ≤ rp ∧ rp ≠ gp ∧ ∀ i, i < n → K.s i ≠ gw) ∧ Mod nowhere w w'
set_option maxRecDepth 100000 in
set_option maxHeartbeats 8000000 in
theorem fnew_calls (l ld : List Int) (b o cap n : Nat) (D : Option Addr) (nd cd : Nat) (c1 T : Nat) (c2 c3 c4 c5 : Int) (w : World) (hT : mgrT c4 = some T) (hl : l.length = n) (hc : CfgOk n c1 c2 c3 c4 c5) (h2 : 2 * (n : Int) ≤ c2) (hb : b < w.heap.size) (hx : ∀ k x, l[k]? = some x → w.cell? ⟨b, o + k, none⟩ = some (.int .i64 x)) (hd : Reads w w.heap.size 1 D nd (ld.map (Value.int .u8))) (hld : ld.length = nd) (hnd : nd ≤ 1000) :
    Calls Try.prog 9 #[.agg #[.int .i64 n, .int .i64 c1, .int .i64 c2, .int .i64 c3, .int .i64 c4, .int .i64 c5], .slice (some ⟨b, o, none⟩) n cap, .slice D nd cd] w fun e w' => ∃ p, e = .returned (.tuple #[.pointer (some ⟨p, 0, none⟩), .int .i64 0]) ∧ FloorNew w w' n c1 nd c2 c3 c4 c5 T l ld p := by
  have HX := hide hx
  have HD := hide hd
  have HC := hide hc
  have HLD := hide hld
  have hmk := make_ints c1 (by have := hc.2.1; omega)
  have HI4 := hide (show I64 c4 by have := hc.2.2.2.2.1; unfold I64; omega)
  have HT := hide hT
  clear hx hd hc hld hT
  go_enter Try.func9, Try.ntmps9
  go_wp2_with fail
  (with_reducible refine (check_yes n c1 c2 c3 c4 c5 _ HC.out).mono ?_)
  rintro e w1 ⟨rfl, hm1⟩
  have y1 : Mod nowhere w w1 := (by repeat (first | with_reducible exact Mod.refl _ _ | with_reducible assumption | with_reducible refine Mod.alloc ?_ _ | with_reducible refine Mod.drew ?_ | with_reducible refine Mod.drewN ?_ _ | with_reducible refine Mod.setCell ?_ (by first | exact .inl rfl | (left; (try unfold from_); show _ ≤ _; first | omega | (simp; done) | (simp; omega)) | (right; first | omega | (simp; done) | (simp; omega))) _ | with_reducible refine Mod.call0 ?_ (by with_reducible assumption) | with_reducible refine Mod.call ?_ (by with_reducible assumption) (by first | (rintro _ rfl; first | exact .inl rfl | (right; (first | omega | (simp; done) | (simp; omega)))) | (rintro _ (rfl | rfl) <;> (right; (first | omega | (simp; done) | (simp; omega)))))))
  have hz1 := hm1.size
  have lp : w.heap.size < w1.heap.size := by simp at hz1; omega
  have hcfg : Blk w1 w.heap.size 29 #[.int .i64 n, .int .i64 c1, .int .i64 c2, .int .i64 c3, .int .i64 c4, .int .i64 c5] := Blk.keep0 (Blk.new _ _ _) hm1
  have c_hcfg := hcfg.cell; have f_hcfg := hcfg.frozen; have l_hcfg := hcfg.lt
  go_wp2_with fail
  go_cut [8] (fun s8 wx => ∃ (p : Nat) (Ac : Option Addr) (cc rp : Nat), s8 = .pointer (some ⟨p, 0, none⟩) ∧ Blk wx p 86 #[.pointer none, .pointer none, .pointer none, .pointer none, .pointer none, .int .i64 n, .int .i64 c1, .int .i64 c2, .int .i64 c3, .int .i64 c4, .int .i64 c5, .iface T (.agg #[]), .slice Ac nd cc, .slice (some ⟨rp, 0, none⟩) c1 c1, .slice none 0 0] ∧ LocRow wx w.heap.size 5 1 (.slice Ac nd cc) nd (ld.map (Value.int .u8)) ∧ Blk wx rp 3 (madeCells #[.int .i64 0] c1) ∧ Blk wx w.heap.size 29 #[.int .i64 n, .int .i64 c1, .int .i64 c2, .int .i64 c3, .int .i64 c4, .int .i64 c5] ∧ w.heap.size < p ∧ w.heap.size < rp ∧ Mod nowhere w wx)
  case first =>
    go_region_held3 (fun w' => w'.cell? ⟨w.heap.size, 0, none⟩ = some (.int .i64 n) ∧ w'.cell? ⟨w.heap.size, 1, none⟩ = some (.int .i64 c1) ∧ w'.cell? ⟨w.heap.size, 2, none⟩ = some (.int .i64 c2) ∧ w'.cell? ⟨w.heap.size, 3, none⟩ = some (.int .i64 c3) ∧ w'.cell? ⟨w.heap.size, 4, none⟩ = some (.int .i64 c4) ∧ w'.cell? ⟨w.heap.size, 5, none⟩ = some (.int .i64 c5) ∧ Mod nowhere w1 w') ((repeat' apply And.intro) <;> first | (simp [*]; done) | (go_simp; done) | exact (by repeat (first | with_reducible exact Mod.refl _ _ | with_reducible assumption | with_reducible refine Mod.alloc ?_ _ | with_reducible refine Mod.drew ?_ | with_reducible refine Mod.drewN ?_ _ | with_reducible refine Mod.setCell ?_ (by first | exact .inl rfl | (left; (try unfold from_); show _ ≤ _; first | omega | (simp; done) | (simp; omega)) | (right; first | omega | (simp; done) | (simp; omega))) _ | with_reducible refine Mod.call0 ?_ (by with_reducible assumption) | with_reducible refine Mod.call ?_ (by with_reducible assumption) (by first | (rintro _ rfl; first | exact .inl rfl | (right; (first | omega | (simp; done) | (simp; omega)))) | (rintro _ (rfl | rfl) <;> (right; (first | omega | (simp; done) | (simp; omega)))))))) (first
    | (go_at_call 43; (with_reducible refine (mgr_callsT c4 T _ HI4.out HT.out).mono ?_); rintro e wm ⟨rfl, hbwm⟩; have hzwm := hbwm.size; (try simp at hzwm); (try (have ltwm0 : w.heap.size < wm.heap.size := (by omega); have lcwm0 := fun o => hbwm.cell (b := w.heap.size) o (by first | omega | (simp; done) | (simp; omega)) (id); have lfwm0 := fun o => hbwm.frozen (b := w.heap.size) o (by first | omega | (simp; done) | (simp; omega)) (id))); skip)
    | (go_at_call 44; (with_reducible refine (clone_callsS D nd cd w.heap.size ld _ (HD.out.keepMod (Nat.le_refl _) ((by repeat (first | with_reducible exact Mod.refl _ _ | with_reducible assumption | with_reducible refine Mod.alloc ?_ _ | with_reducible refine Mod.drew ?_ | with_reducible refine Mod.drewN ?_ _ | with_reducible refine Mod.setCell ?_ (by first | exact .inl rfl | (left; (try unfold from_); show _ ≤ _; first | omega | (simp; done) | (simp; omega)) | (right; first | omega | (simp; done) | (simp; omega))) _ | with_reducible refine Mod.call0 ?_ (by with_reducible assumption) | with_reducible refine Mod.call ?_ (by with_reducible assumption) (by first | (rintro _ rfl; first | exact .inl rfl | (right; (first | omega | (simp; done) | (simp; omega)))) | (rintro _ (rfl | rfl) <;> (right; (first | omega | (simp; done) | (simp; omega))))))) : Mod nowhere w _)) (Mod.size (S := nowhere) (by repeat (first | with_reducible exact Mod.refl _ _ | with_reducible assumption | with_reducible refine Mod.alloc ?_ _ | with_reducible refine Mod.drew ?_ | with_reducible refine Mod.drewN ?_ _ | with_reducible refine Mod.setCell ?_ (by first | exact .inl rfl | (left; (try unfold from_); show _ ≤ _; first | omega | (simp; done) | (simp; omega)) | (right; first | omega | (simp; done) | (simp; omega))) _ | with_reducible refine Mod.call0 ?_ (by with_reducible assumption) | with_reducible refine Mod.call ?_ (by with_reducible assumption) (by first | (rintro _ rfl; first | exact .inl rfl | (right; (first | omega | (simp; done) | (simp; omega)))) | (rintro _ (rfl | rfl) <;> (right; (first | omega | (simp; done) | (simp; omega)))))))) HLD.out hnd).mono ?_); rintro e wc ⟨Ac, cc, rfl, hLc, hbwc⟩; have hzwc := hbwc.size; (try simp at hzwc); (try (have ltwc0 : w.heap.size < wc.heap.size := (by omega); have lcwc0 := fun o => hbwc.cell (b := w.heap.size) o (by first | omega | (simp; done) | (simp; omega)) (id); have lfwc0 := fun o => hbwc.frozen (b := w.heap.size) o (by first | omega | (simp; done) | (simp; omega)) (id)))))
    all_goals
      go_wp2_with fail
      go_meet
    all_goals exact ⟨_, _, _, _, rfl, (by repeat (first | with_reducible assumption | with_reducible apply Blk.new | with_reducible exact Blk.newAt (by first | rfl | (simp; done) | (simp; omega)) | with_reducible apply Blk.alloc | with_reducible apply Blk.drew | with_reducible apply Blk.drewN | with_reducible apply Blk.keep0 (hm := by with_reducible assumption) | with_reducible apply Blk.keep (hm := by with_reducible assumption) (hg := by first | omega | exact not_two (by omega) (by omega)) | with_reducible apply Blk.far (hp := by first | omega | (simp; done) | (simp; omega)) | with_reducible apply Blk.set1 | rfl)), (hLc.keep0 ((by repeat (first | with_reducible exact Mod.refl _ _ | with_reducible assumption | with_reducible refine Mod.alloc ?_ _ | with_reducible refine Mod.drew ?_ | with_reducible refine Mod.drewN ?_ _ | with_reducible refine Mod.setCell ?_ (by first | exact .inl rfl | (left; (try unfold from_); show _ ≤ _; first | omega | (simp; done) | (simp; omega)) | (right; first | omega | (simp; done) | (simp; omega))) _ | with_reducible refine Mod.call0 ?_ (by with_reducible assumption) | with_reducible refine Mod.call ?_ (by with_reducible assumption) (by first | (rintro _ rfl; first | exact .inl rfl | (right; (first | omega | (simp; done) | (simp; omega)))) | (rintro _ (rfl | rfl) <;> (right; (first | omega | (simp; done) | (simp; omega))))))) : Mod nowhere wc _)).weaken (Mod.size (S := nowhere) ((by repeat (first | with_reducible exact Mod.refl _ _ | with_reducible assumption | with_reducible refine Mod.alloc ?_ _ | with_reducible refine Mod.drew ?_ | with_reducible refine Mod.drewN ?_ _ | with_reducible refine Mod.setCell ?_ (by first | exact .inl rfl | (left; (try unfold from_); show _ ≤ _; first | omega | (simp; done) | (simp; omega)) | (right; first | omega | (simp; done) | (simp; omega))) _ | with_reducible refine Mod.call0 ?_ (by with_reducible assumption) | with_reducible refine Mod.call ?_ (by with_reducible assumption) (by first | (rintro _ rfl; first | exact .inl rfl | (right; (first | omega | (simp; done) | (simp; omega)))) | (rintro _ (rfl | rfl) <;> (right; (first | omega | (simp; done) | (simp; omega))))))) : Mod nowhere w _)), (by repeat (first | with_reducible assumption | with_reducible apply Blk.new | with_reducible exact Blk.newAt (by first | rfl | (simp; done) | (simp; omega)) | with_reducible apply Blk.alloc | with_reducible apply Blk.drew | with_reducible apply Blk.drewN | with_reducible apply Blk.keep0 (hm := by with_reducible assumption) | with_reducible apply Blk.keep (hm := by with_reducible assumption) (hg := by first | omega | exact not_two (by omega) (by omega)) | with_reducible apply Blk.far (hp := by first | omega | (simp; done) | (simp; omega)) | with_reducible apply Blk.set1 | rfl)), (by repeat (first | with_reducible assumption | with_reducible apply Blk.new | with_reducible exact Blk.newAt (by first | rfl | (simp; done) | (simp; omega)) | with_reducible apply Blk.alloc | with_reducible apply Blk.drew | with_reducible apply Blk.drewN | with_reducible apply Blk.keep0 (hm := by with_reducible assumption) | with_reducible apply Blk.keep (hm := by with_reducible assumption) (hg := by first | omega | exact not_two (by omega) (by omega)) | with_reducible apply Blk.far (hp := by first | omega | (simp; done) | (simp; omega)) | with_reducible apply Blk.set1 | rfl)), by first | omega | (simp; omega), by first | omega | (simp; omega), (by repeat (first | with_reducible exact Mod.refl _ _ | with_reducible assumption | with_reducible refine Mod.alloc ?_ _ | with_reducible refine Mod.drew ?_ | with_reducible refine Mod.drewN ?_ _ | with_reducible refine Mod.setCell ?_ (by first | exact .inl rfl | (left; (try unfold from_); show _ ≤ _; first | omega | (simp; done) | (simp; omega)) | (right; first | omega | (simp; done) | (simp; omega))) _ | with_reducible refine Mod.call0 ?_ (by with_reducible assumption) | with_reducible refine Mod.call ?_ (by with_reducible assumption) (by first | (rintro _ rfl; first | exact .inl rfl | (right; (first | omega | (simp; done) | (simp; omega)))) | (rintro _ (rfl | rfl) <;> (right; (first | omega | (simp; done) | (simp; omega)))))))⟩
  case rest =>
    obtain ⟨p, Ac, cc, rp, rfl, hp, hdv, hrp, hcf, lp1, lp2, hmc⟩ := hcut
    clear hcfg c_hcfg f_hcfg l_hcfg hm1 hz1 y1 hmk
    have c_hp := hp.cell; have f_hp := hp.frozen; have l_hp := hp.lt; have c_hcf := hcf.cell; have f_hcf := hcf.frozen; have l_hcf := hcf.lt
    have hlw := hmc.size
    have q2 := HC.out.2.2.1
    have q3 := HC.out.2.2.2.1
    have q1 := HC.out.2.1
    have q0 : 1 ≤ (n : Int) ∧ (n : Int) ≤ 8 := (show (1 ≤ (n : Int) ∧ (n : Int) ≤ 8) ∧ _ from HC.out).1
    have ha1 := Arn.new wc 102 62 9 c2
    go_wp2_with (go_at_call 45; (with_reducible refine (anew_rec c2 _ q2.1 q2.2).mono ?_); rintro e w' ⟨rfl, rfl⟩)
    obtain ⟨a, hae⟩ : ∃ a, a = wc.heap.size := ⟨_, rfl⟩
    rw [← hae]
    obtain ⟨w2, hw2⟩ : ∃ w2, w2 = (wc.setCell ⟨p, 0, none⟩ (.pointer (some ⟨a, 0, none⟩))).alloc (.cells #[.slice none 0 0, .int .i64 c2] 102) := ⟨_, rfl⟩
    rw [← hw2]
    have hp2 : Blk w2 p 86 #[.pointer (some ⟨a, 0, none⟩), .pointer none, .pointer none, .pointer none, .pointer none, .int .i64 n, .int .i64 c1, .int .i64 c2, .int .i64 c3, .int .i64 c4, .int .i64 c5, .iface T (.agg #[]), .slice Ac nd cc, .slice (some ⟨rp, 0, none⟩) c1 c1, .slice none 0 0] := by rw [hw2]; exact Blk.alloc (hp.set1 rfl) _
    have ha2 : Arn_rec w2 a a 0 c2 [] := by
      have := Arn.new (wc.setCell ⟨p, 0, none⟩ (.pointer (some ⟨a, 0, none⟩))) 102 62 9 c2
      rw [hw2, hae]
      rw [hae] at this
      simpa using this
    have m02 : Mod (· = p) wc w2 := by rw [hw2]; exact (Mod.setCell (S := (· = p)) (Mod.refl _ _) (.inl rfl) _).alloc _
    have hcf2 : Blk w2 w.heap.size 29 #[.int .i64 n, .int .i64 c1, .int .i64 c2, .int .i64 c3, .int .i64 c4, .int .i64 c5] := Blk.keep hcf m02 (by omega)
    have hrp2 := Blk.keep hrp m02 (Blk.ne_ hrp hp (by decide))
    have hdv2 := hdv.far m02 (fun b hb e => by obtain ⟨-, cur, hc⟩ := hdv.blk b hb; exact Blk.ne_ hc hp (by decide) e)
    have y2 : Mod nowhere w w2 := hmc.call m02 (fun i e => .inr (by omega))
    have lap : a ≠ p := by have := hp.lt; omega
    have law : w.heap.size < a := by omega
    clear hp hcf hrp hdv hmc m02 hw2 hae ha1 c_hp f_hp l_hp c_hcf f_hcf l_hcf
    have z2 := y2.size
    have c_hp2 := hp2.cell; have f_hp2 := hp2.frozen; have l_hp2 := hp2.lt; have c_hcf2 := hcf2.cell; have f_hcf2 := hcf2.frozen; have l_hcf2 := hcf2.lt
    (with_reducible refine (dnew_calls a w2).mono ?_)
    rintro e w3 ⟨rfl, ht3, hpm3, hm3⟩
    have z3 := hm3.size
    have hp3 := hp2.keep0 hm3
    have hcf3 := hcf2.keep0 hm3
    have y3 : Mod nowhere w w3 := y2.call0 hm3
    clear c_hp2 f_hp2 l_hp2 c_hcf2 f_hcf2 l_hcf2
    have c_hp3 := hp3.cell; have f_hp3 := hp3.frozen; have l_hp3 := hp3.lt; have c_hcf3 := hcf3.cell; have f_hcf3 := hcf3.frozen; have l_hcf3 := hcf3.lt
    have lt3 := ht3.lt
    have ltp : w2.heap.size + 1 ≠ p := by have := hp2.lt; omega
    obtain ⟨tb, htb⟩ : ∃ tb, tb = w2.heap.size + 1 := ⟨_, rfl⟩
    obtain ⟨mp, hmp⟩ : ∃ mp, mp = w2.heap.size := ⟨_, rfl⟩
    rw [← htb] at ht3 ltp lt3 ⊢
    rw [← hmp] at ht3 hpm3
    have ntb : w.heap.size < tb ∧ w.heap.size < mp ∧ tb ≠ mp ∧ mp ≠ p := by have := hp2.lt; omega
    have HM3 := hide hm3
    clear htb hmp z2 hm3
    go_wp2_with (go_at_call 47; (with_reducible refine (tnew_calls c3 _ q3.1 q3.2).mono ?_); rintro e w' ⟨rfl, rfl⟩)
    obtain ⟨tk, htk⟩ : ∃ tk, tk = w3.heap.size := ⟨_, rfl⟩
    rw [← htk]
    obtain ⟨w4, hw4⟩ : ∃ w4, w4 = ((w3.setCell ⟨p, 1, none⟩ (.pointer (some ⟨tb, 0, none⟩))).setCell ⟨p, 3, none⟩ (.pointer (some ⟨tk, 0, none⟩))).alloc (.cells #[.int .i64 0, .int .i64 c3] 110) := ⟨_, rfl⟩
    rw [← hw4]
    have hp4 : Blk w4 p 86 #[.pointer (some ⟨a, 0, none⟩), .pointer (some ⟨tb, 0, none⟩), .pointer none, .pointer (some ⟨tk, 0, none⟩), .pointer none, .int .i64 n, .int .i64 c1, .int .i64 c2, .int .i64 c3, .int .i64 c4, .int .i64 c5, .iface T (.agg #[]), .slice Ac nd cc, .slice (some ⟨rp, 0, none⟩) c1 c1, .slice none 0 0] := by rw [hw4]; exact Blk.alloc ((hp3.set1 rfl).set1 rfl) _
    have htk4 : IsTick w4 tk 0 c3 := by rw [hw4, htk]; exact Blk.newAt (by simp)
    have m34 : Mod (· = p) w3 w4 := by rw [hw4]; exact (Mod.setCell (S := (· = p)) (Mod.setCell (S := (· = p)) (Mod.refl _ _) (.inl rfl) _) (.inl rfl) _).alloc _
    have ha4 : Arn_rec w4 a a 0 c2 [] := Own.keep (Own.keep0 ha2 HM3.out) m34 lap lap
    have ht4 : IsTab w4 tb a mp := Blk.keep ht3 m34 ltp
    have hpm4 := hpm3.keep m34 ntb.2.2.2
    have hcf4 : Blk w4 w.heap.size 29 #[.int .i64 n, .int .i64 c1, .int .i64 c2, .int .i64 c3, .int .i64 c4, .int .i64 c5] := Blk.keep hcf3 m34 (by omega)
    have hrp4 := Blk.keep (hrp2.keep0 HM3.out) m34 (Blk.ne_ hrp2 hp2 (by decide))
    have hdv4 := (hdv2.keep0 HM3.out).far m34 (fun b hb e => by obtain ⟨-, cur, hc⟩ := hdv2.blk b hb; exact Blk.ne_ hc hp2 (by decide) e)
    have y4 : Mod nowhere w w4 := y3.call m34 (fun i e => .inr (by omega))
    have ltk : w.heap.size < tk := by omega
    have HP2 := hide hp2
    clear hp2 hp3 hcf2 hcf3 ha2 hrp2 hdv2 ht3 hpm3 m34 hw4 htk c_hp3 f_hp3 l_hp3 c_hcf3 f_hcf3 l_hcf3
    have z4 := y4.size
    have c_hp4 := hp4.cell; have f_hp4 := hp4.frozen; have l_hp4 := hp4.lt; have c_hcf4 := hcf4.cell; have f_hcf4 := hcf4.frozen; have l_hcf4 := hcf4.lt
    (with_reducible refine (gnew_calls c1 w4 (by omega) (by omega)).mono ?_)
    rintro e w5 ⟨gt, gw, gp, rfl, hg5, lg1, lg2, lg3, hm5⟩
    have hp5 := hp4.keep0 hm5
    have hcf5 := hcf4.keep0 hm5
    have y5 : Mod nowhere w w5 := y4.call0 hm5
    have z5 := hm5.size
    clear c_hp4 f_hp4 l_hp4 c_hcf4 f_hcf4 l_hcf4
    have c_hp5 := hp5.cell; have f_hp5 := hp5.frozen; have l_hp5 := hp5.lt; have c_hcf5 := hcf5.cell; have f_hcf5 := hcf5.frozen; have l_hcf5 := hcf5.lt
    have hp4l := hp4.lt
    have hrp4l := hrp4.lt
    have ha4l := ha4.lt
    go_wp2_with fail
    obtain ⟨w6, hw6⟩ : ∃ w6, w6 = w5.setCell ⟨p, 4, none⟩ (.pointer (some ⟨gt, 0, none⟩)) := ⟨_, rfl⟩
    rw [← hw6]
    have hp6 : Blk w6 p 86 #[.pointer (some ⟨a, 0, none⟩), .pointer (some ⟨tb, 0, none⟩), .pointer none, .pointer (some ⟨tk, 0, none⟩), .pointer (some ⟨gt, 0, none⟩), .int .i64 n, .int .i64 c1, .int .i64 c2, .int .i64 c3, .int .i64 c4, .int .i64 c5, .iface T (.agg #[]), .slice Ac nd cc, .slice (some ⟨rp, 0, none⟩) c1 c1, .slice none 0 0] := by rw [hw6]; exact hp5.set1 rfl
    have m56 : Mod (· = p) w5 w6 := by rw [hw6]; exact Mod.setCell (S := (· = p)) (Mod.refl _ _) (.inl rfl) _
    have ha6 : Arn_rec w6 a a 0 c2 [] := Own.keep (Own.keep0 ha4 hm5) m56 lap lap
    have ht6 : IsTab w6 tb a mp := Blk.keep (Blk.keep0 ht4 hm5) m56 ltp
    have hpm6 := (hpm4.keep0 hm5).keep m56 ntb.2.2.2
    have htk6 : IsTick w6 tk 0 c3 := Blk.keep (Blk.keep0 htk4 hm5) m56 (Blk.ne_ htk4 hp4 (by decide))
    have hg6 := hg5.keep m56 (by omega) (by omega) (by omega)
    have hrp6 := Blk.keep (hrp4.keep0 hm5) m56 (Blk.ne_ hrp4 hp4 (by decide))
    have hdv6 := (hdv4.keep0 hm5).far m56 (fun b hb e => by obtain ⟨-, cur, hc⟩ := hdv4.blk b hb; exact Blk.ne_ hc hp4 (by decide) e)
    have y6 : Mod nowhere w w6 := y5.call m56 (fun i e => .inr (by omega))
    have ne6 : tb ≠ a ∧ mp ≠ a ∧ tk ≠ a ∧ gt ≠ a ∧ gw ≠ a ∧ gp ≠ a ∧ rp ≠ a ∧ p ≠ a := ⟨by obtain ⟨A0, k0, hA, -⟩ := ha4; exact Blk.ne_ ht4 hA (by decide), by obtain ⟨A0, k0, hA, -⟩ := ha4; exact hpm4.ne_blk hA, by obtain ⟨A0, k0, hA, -⟩ := ha4; exact Blk.ne_ htk4 hA (by decide), by omega, by omega, by omega, by obtain ⟨A0, k0, hA, -⟩ := ha4; exact Blk.ne_ hrp4 hA (by decide), fun e => lap e.symm⟩
    have z6 := y6.size
    clear hp4 hp5 hcf4 hcf5 ha4 hrp4 hdv4 ht4 hpm4 htk4 hg5 m56 hw6 c_hp5 f_hp5 l_hp5 c_hcf5 f_hcf5 l_hcf5
    have c_hp6 := hp6.cell; have f_hp6 := hp6.frozen; have l_hp6 := hp6.lt
    (with_reducible refine (cnew_ok l a b o cap n c2 w6 hl (by omega) (by omega) h2 q2.2 ha6 (by omega) (by omega) (fun k x hk => (y6.cell (o + k) hb id).trans (HX.out k x hk))).mono ?_)
    rintro e w7 ⟨c, r, rc, ws, cs, s, rfl, hF, hFi, hr, hm7⟩
    have hp7 := Blk.keep hp6 hm7 ne6.2.2.2.2.2.2.2
    have y7 : Mod nowhere w w7 := y6.call hm7 (fun i e => .inr (by omega))
    have z7 := hm7.size
    have hFo := hF.old
    clear c_hp6 f_hp6 l_hp6
    have c_hp7 := hp7.cell; have f_hp7 := hp7.frozen; have l_hp7 := hp7.lt
    have HFF := hide hF
    clear hF
    go_wp2
    go_ret2
    have hS7 : Sys w7 w.heap.size ⟨c, a, rc, n, tb, mp, c2, ws, s⟩ r (2 * n) cs (fun i => 2 * i + 1) 0 (fun _ => none) (fun _ => 0) (fun _ => 0) := by
      have hF := HFF.out
      have hr4 : w.heap.size ≤ r := by omega
      exact { cf := { hF with bs := fun i hi => Nat.le_trans z6 (hF.bs i hi), old := ⟨Nat.le_trans z6 hFo.1, Nat.le_trans z6 hFo.2⟩ }, tab := Blk.keep ht6 hm7 (show ¬ tb = a from ne6.1), map := hpm6.keep hm7 (show ¬ mp = a from ne6.2.1), dsc := fun i d hd => (by cases hd), dst := fun i d hd => (by cases hd), non := fun _ _ => rfl, qq := fun i j d1 d2 hd => (by cases hd), sq := fun i j d hi hd => (by cases hd), bd := fun i d hd => (by cases hd), old := ⟨Nat.le_of_lt law, hr4, Nat.le_of_lt ntb.1, Nat.le_of_lt ntb.2.1⟩, le := Nat.zero_le _, k8 := (show n ≤ 8 by omega), m4 := q2.2, fit := by show ((2 * n : Nat) : Int) ≤ c2; omega }
    have m78 : Mod (· = p) w7 (w7.setCell ⟨p, 2, none⟩ (.pointer (some ⟨c, 0, none⟩))) := Mod.setCell (S := (· = p)) (Mod.refl _ _) (.inl rfl) _
    have hpn := hS7.notIn hp7 (by decide) (by decide) (by decide) (by decide) (by decide) (by decide) (by decide)
    have htk7 : IsTick w7 tk 0 c3 := Blk.keep htk6 hm7 ne6.2.2.1
    have hg7 := hg6.keep hm7 ne6.2.2.2.1 ne6.2.2.2.2.1 ne6.2.2.2.2.2.1
    have hrp7 := Blk.keep hrp6 hm7 ne6.2.2.2.2.2.2.1
    have hdv7 := hdv6.far hm7 (fun b hb e => by obtain ⟨-, cur, hc⟩ := hdv6.blk b hb; obtain ⟨A0, k0, hA, -⟩ := ha6; exact Blk.ne_ hc hA (by decide) e)
    refine ⟨p, rfl, ⟨c, a, rc, n, tb, mp, c2, ws, s⟩, r, tk, gt, gw, gp, rp, cc, Ac, cs, hp7.set1 rfl, rfl, rfl, hS7.keep m78 (fun b hb e => hpn (e ▸ hb)), hFi, Blk.keep htk7 m78 (Blk.ne_ htk7 hp7 (by decide)), hg7.keep m78 (by omega) (by omega) (by omega), hdv7.far m78 (fun b hb e => by obtain ⟨-, cur, hc⟩ := hdv7.blk b hb; exact Blk.ne_ hc hp7 (by decide) e), Blk.keep hrp7 m78 (Blk.ne_ hrp7 hp7 (by decide)), ⟨by omega, by omega, by omega, by omega, by omega, by omega, by omega, fun i hi => by have := HFF.out.bs i hi; have := hg6.lt; show s i ≠ gw; omega⟩, y7.call m78 (fun i e => .inr (by omega))⟩
end Go.Proofs.Ytcfpgecchappoaa
