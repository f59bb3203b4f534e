/- The program's cells and the document's, side by side; looks. -/
import Derived.Test.YtanmibdnnjfpbaaActD
import Derived.Laws.StructEq
namespace Go.Proofs.Ytanmibdnnjfpbaa
open Go.RowKit

structure Duo (w : World) (B : Nat) (K : KD) (r N : Nat) (cs : List Value) (v : Nat → Nat) (nd : Nat) (M : Int → Option Nat) (q : Int → Nat) (st : Int → Int) (g rl ra m ca N2 : Nat) (cs2 : List Value) (v2 : Nat → Nat) (nm : Nat) (st2 : Int → Int) (n : Int) : Prop where
  sys : Sys w B K r N cs v nd M q st
  ref : Ref w g rl ra m ca K.k n N2 cs2 v2 nm st2
  dj : ∀ b, In K r M q b → ¬ InR g rl ra m b
  rB : B ≤ g ∧ B ≤ rl ∧ B ≤ ra ∧ B ≤ m
  hB : B ≤ w.heap.size
section
variable {w w' : World} {B : Nat} {K : KD} {r N : Nat} {cs : List Value} {v : Nat → Nat} {nd : Nat} {M : Int → Option Nat} {q : Int → Nat} {st : Int → Int} {g rl ra m ca N2 : Nat} {cs2 : List Value} {v2 : Nat → Nat} {nm : Nat} {st2 : Int → Int} {n : Int}
theorem InR.lt {b : Nat} (h : Ref w g rl ra m ca K.k n N2 cs2 v2 nm st2) (hb : InR g rl ra m b) : b < w.heap.size := by
  have := h.lt
  rcases hb with e | e | e | e <;> omega
theorem Duo.keep0 (h : Duo w B K r N cs v nd M q st g rl ra m ca N2 cs2 v2 nm st2 n) (hm : Mod nowhere w w') : Duo w' B K r N cs v nd M q st g rl ra m ca N2 cs2 v2 nm st2 n :=
  { h with sys := h.sys.keep0 hm, ref := h.ref.keep0 hm, hB := Nat.le_trans h.hB hm.size }
theorem Duo.keep {S : Nat → Prop} (h : Duo w B K r N cs v nd M q st g rl ra m ca N2 cs2 v2 nm st2 n) (hm : Mod S w w') (hS : ∀ b, S b → w.heap.size ≤ b ∨ b < B) : Duo w' B K r N cs v nd M q st g rl ra m ca N2 cs2 v2 nm st2 n :=
  { h with sys := h.sys.keep hm (fun b hb x => by have := h.sys.lt hb; have := h.sys.ge hb; have := hS b x; omega), ref := h.ref.keep hm (fun b hb x => by
      have l := InR.lt h.ref hb
      have := h.rB
      have := hS b x
      rcases hb with e | e | e | e <;> omega), hB := Nat.le_trans h.hB hm.size }
/-- The program has done something. -/
theorem Duo.step {S : Nat → Prop} {r' N' nd' : Nat} {cs' : List Value} {v' : Nat → Nat} {M' : Int → Option Nat} {q' : Int → Nat} {st' : Int → Int} (h : Duo w B K r N cs v nd M q st g rl ra m ca N2 cs2 v2 nm st2 n) (hs : Sys w' B K r' N' cs' v' nd' M' q' st') (hm : Mod S w w') (hS : ∀ b, S b → In K r M q b) (hI : ∀ b, In K r' M' q' b → In K r M q b ∨ w.heap.size ≤ b) :
    Duo w' B K r' N' cs' v' nd' M' q' st' g rl ra m ca N2 cs2 v2 nm st2 n :=
  { h with
    sys := hs
    ref := h.ref.keep hm fun b hb x => h.dj b (hS b x) hb
    dj := fun b hb x => (hI b hb).elim (fun y => h.dj b y x) fun y => by have := InR.lt h.ref x; omega
    hB := Nat.le_trans h.hB hm.size }
theorem Duo.stepW {v' : Nat → Nat} {st' : Int → Int} (h : Duo w B K r N cs v nd M q st g rl ra m ca N2 cs2 v2 nm st2 n) (hs : Sys w' B K r N cs v' nd M q st') (hm : Mod (Wd K M q) w w') : Duo w' B K r N cs v' nd M q st' g rl ra m ca N2 cs2 v2 nm st2 n :=
  h.step hs hm (fun _ x => x.in_) fun _ x => .inl x
theorem Duo.stepR {r' N' : Nat} {cs' : List Value} (h : Duo w B K r N cs v nd M q st g rl ra m ca N2 cs2 v2 nm st2 n) (hs : Sys w' B K r' N' cs' v nd M q st) (hr : r' = r ∨ w.heap.size ≤ r') (hm : Mod (In K r M q) w w') : Duo w' B K r' N' cs' v nd M q st g rl ra m ca N2 cs2 v2 nm st2 n :=
  h.step hs hm (fun _ x => x) fun b x => by
    rcases x with e | e | e | e | e | e | e | e
    · exact .inl (.inl e)
    · exact .inl (.inr (.inl e))
    · exact .inl (.inr (.inr (.inl e)))
    · rcases hr with hr | hr
      · exact .inl (.inr (.inr (.inr (.inl (e.trans hr)))))
      · exact .inr (by omega)
    · exact .inl (.inr (.inr (.inr (.inr (.inl e)))))
    · exact .inl (.inr (.inr (.inr (.inr (.inr (.inl e))))))
    · exact .inl (.inr (.inr (.inr (.inr (.inr (.inr (.inl e)))))))
    · exact .inl (.inr (.inr (.inr (.inr (.inr (.inr (.inr e)))))))
theorem Duo.stepB {r' N' nd' d x : Nat} {cs' : List Value} {i : Int} {st' : Int → Int} (h : Duo w B K r N cs v nd M q st g rl ra m ca N2 cs2 v2 nm st2 n) (hs : Sys w' B K r' N' cs' v nd' (updz M i (some d)) (updz q i x) st') (hr : r' = r ∨ w.heap.size ≤ r') (hd : w.heap.size ≤ d) (hx : w.heap.size ≤ x) (hm : Mod (In K r M q) w w') : Duo w' B K r' N' cs' v nd' (updz M i (some d)) (updz q i x) st' g rl ra m ca N2 cs2 v2 nm st2 n :=
  h.step hs hm (fun _ x => x) fun b y => by
    rcases y with e | e | e | e | e | e | e | ⟨j, d', hj, e⟩
    · exact .inl (.inl e)
    · exact .inl (.inr (.inl e))
    · exact .inl (.inr (.inr (.inl e)))
    · rcases hr with hr | hr
      · exact .inl (.inr (.inr (.inr (.inl (e.trans hr)))))
      · exact .inr (by omega)
    · exact .inl (.inr (.inr (.inr (.inr (.inl e)))))
    · exact .inl (.inr (.inr (.inr (.inr (.inr (.inl e))))))
    · exact .inl (.inr (.inr (.inr (.inr (.inr (.inr (.inl e)))))))
    · by_cases hij : j = i
      · subst hij
        rw [updz_same] at hj e
        obtain rfl := Option.some.inj hj
        exact .inr (by omega)
      · rw [updz_other _ _ hij] at hj e
        exact .inl (.inr (.inr (.inr (.inr (.inr (.inr (.inr ⟨j, d', hj, e⟩)))))))
/-- The document has done something. -/
theorem Duo.refS {S : Nat → Prop} {rl' N3 nm' : Nat} {cs3 : List Value} {v3 : Nat → Nat} {st3 : Int → Int} (h : Duo w B K r N cs v nd M q st g rl ra m ca N2 cs2 v2 nm st2 n) (hr : Ref w' g rl' ra m ca K.k n N3 cs3 v3 nm' st3) (hl : rl' = rl ∨ w.heap.size ≤ rl') (hm : Mod S w w') (hS : ∀ b, S b → InR g rl ra m b) :
    Duo w' B K r N cs v nd M q st g rl' ra m ca N3 cs3 v3 nm' st3 n :=
  { h with
    sys := h.sys.keep hm fun b hb x => h.dj b hb (hS b x)
    ref := hr
    dj := fun b hb x => by
      have hlt := h.sys.lt hb
      rcases x with e | e | e | e
      · exact h.dj b hb (.inl e)
      · rcases hl with hl | hl
        · exact h.dj b hb (.inr (.inl (e.trans hl)))
        · omega
      · exact h.dj b hb (.inr (.inr (.inl e)))
      · exact h.dj b hb (.inr (.inr (.inr e)))
    rB := by
      have := h.rB
      have := h.hB
      omega
    hB := Nat.le_trans h.hB hm.size }
end
/-- Both tell the same. -/
structure Sync (w : World) (B : Nat) (K : KD) (r N : Nat) (cs : List Value) (v : Nat → Nat) (nd : Nat) (M : Int → Option Nat) (q : Int → Nat) (st : Int → Int) (g rl ra m ca nm : Nat) (n : Int) : Prop where
  duo : Duo w B K r N cs v nd M q st g rl ra m ca N cs v nm st n
  good : Good cs N
  locs : ∀ i, i < K.k → v i < N ∧ kindOf cs (v i) = 2
  most : K.most = n
  k1 : 1 ≤ K.k

theorem wpStill_skip_ {P : Program} {ops : Array Oper} {w : World} {Q : Act → Prop} {a : Act} {o : Oper} {rest : List Oper} (hw : Region.wanted o (yielded ops a.tmps) = false)
    (h : ∀ K : Act → Prop, (∀ a, wpStill P ops w Q rest a → K a) → K (a.put o.dst undef)) : wpStill P ops w Q (o :: rest) a :=
  wpStill_step fun K hK => by rw [if_neg (by rw [hw]; exact Bool.false_ne_true)]; exact h K hK
theorem same_sym {P : Program} {f : FuncId} {args : Array Value} {w : World} {v : Value} (h : Calls P f args w fun e w' => e = .returned v ∧ w = w') : Calls P f args w fun e w' => e = .returned v ∧ w' = w :=
  h.mono fun _ _ ⟨h1, h2⟩ => ⟨h1, h2.symm⟩
set_option maxRecDepth 100000 in
set_option maxHeartbeats 4000000 in
theorem ris_same (at_ k : Int) (g r N : Nat) (n : Int) (za zm : Value) (cs : List Value) (w : World) (h : RecL w g r N n za zm cs) (hK : Kinds cs N) (hN : N ≤ 4096) (hi : I64 at_) :
    Calls Try.prog 11 #[.pointer (some ⟨g, 0, none⟩), .int .i64 at_, .int .i64 k] w fun e w' => e = .returned (.bool (decide (0 ≤ at_ ∧ at_ < (N : Int) ∧ kindOf cs at_.toNat = k))) ∧ w = w' := by
  by_cases h0 : 0 ≤ at_
  · by_cases h1 : at_ < (N : Int)
    · obtain ⟨i, rfl⟩ : ∃ i : Nat, at_ = i := ⟨at_.toNat, by omega⟩
      obtain ⟨cap, hb, hc⟩ := h.cells (by omega)
      have cx := (hc (i * 9) (by omega)).trans (hK i (by omega))
      have hres : decide (0 ≤ (i : Int) ∧ (i : Int) < (N : Int) ∧ kindOf cs (i : Int).toNat = k) = (kindOf cs i == k) := by
        rw [show (i : Int).toNat = i from rfl]
        by_cases e : kindOf cs i = k
        · rw [decide_eq_true ⟨h0, h1, e⟩, beq_iff_eq.2 e]
        · rw [decide_eq_false (fun x => e x.2.2), beq_eq_false_iff_ne.2 e]
      rw [hres]
      generalize kindOf cs i = kk at cx ⊢
      clear hc hres hK h
      have c_hb := hb.cell; have f_hb := hb.frozen; have l_hb := hb.lt
      go_enter Try.func11, Try.ntmps11
      go_wp2
      go_ret
      exact ⟨rfl, rfl⟩
    · rw [decide_eq_false (fun x => h1 x.2.1)]
      obtain ⟨A, cap, hb, -, -⟩ := h.open_
      clear h hK
      have c_hb := hb.cell; have f_hb := hb.frozen; have l_hb := hb.lt
      go_enter Try.func11, Try.ntmps11
      go_wp2
      go_ret
      exact ⟨rfl, rfl⟩
  · rw [decide_eq_false (fun x => h0 x.1)]
    obtain ⟨A, cap, hb, -, -⟩ := h.open_
    clear h hK
    have c_hb := hb.cell; have f_hb := hb.frozen; have l_hb := hb.lt
    go_enter Try.func11, Try.ntmps11
    go_wp2
    go_ret
    exact ⟨rfl, rfl⟩

section
variable {w w' : World} {B : Nat} {K : KD} {r N : Nat} {cs : List Value} {v : Nat → Nat} {nd : Nat} {M : Int → Option Nat} {q : Int → Nat} {st : Int → Int} {g rl ra m ca nm : Nat} {n : Int}
theorem Sync.duo' (h : Sync w B K r N cs v nd M q st g rl ra m ca nm n) (hd : Duo w' B K r N cs v nd M q st g rl ra m ca N cs v nm st n) : Sync w' B K r N cs v nd M q st g rl ra m ca nm n := { h with duo := hd }
theorem loc_badS (i : Int) (w : World) {M' : Int → Option Nat} (h : Sys w B K r N cs v nd M' q st) (hG : Good cs N) (hi : ¬ IsK cs N i 2) :
    Calls Try.prog 31 #[.pointer (some ⟨K.c, 0, none⟩), .int .i64 i] w fun e w' => e = .returned (.tuple #[.agg #[.int .i64 0, .int .i64 0, .int .i64 0, .int .i64 0, .int .i64 0, .int .i64 0, .int .i64 0, .int .i64 0, .int .i64 0], .int .i64 6]) ∧ Mod nowhere w w' := by
  obtain ⟨A, cap, hc, -⟩ := h.cf.cls
  exact loc_bad i w hc h.cf.arn hG (by have := h.fit; have := h.m4; omega) hi
theorem val_badS (i : Int) (w : World) {M' : Int → Option Nat} (h : Sys w B K r N cs v nd M' q st) (hG : Good cs N) (hi : ¬ IsK cs N i 1) :
    Calls Try.prog 25 #[.pointer (some ⟨K.c, 0, none⟩), .int .i64 i] w fun e w' => e = .returned (.tuple #[.int .i64 0, .int .i64 6]) ∧ Mod nowhere w w' := by
  obtain ⟨A, cap, hc, -⟩ := h.cf.cls
  exact val_bad i w hc h.cf.arn hG (by have := h.fit; have := h.m4; omega) hi
set_option maxRecDepth 100000 in
set_option maxHeartbeats 8000000 in
theorem looks_in0 (w : World) (h : Sync w B K r N cs v nd M q st g rl ra m ca nm n) (x : Int) (hx64 : I64 x) (i : Nat) (hx : x = i) (hi : i < K.k) (hk2 : ¬ IsK cs N x 2) (hk1 : ¬ IsK cs N x 1) :
    Calls Try.prog 18 #[.pointer (some ⟨K.c, 0, none⟩), .pointer (some ⟨K.t, 0, none⟩), .pointer (some ⟨g, 0, none⟩), .int .i64 x] w fun e w' => e = .returned (.bool true) ∧ Sync w' B K r N cs v nd M q st g rl ra m ca nm n ∧ Mod (Wd K M q) w w' := by
  subst hx
  have HH := hide h
  have hN : N ≤ 4096 := by have := h.duo.sys.fit; have := h.duo.sys.m4; omega
  have k8 := h.duo.sys.k8
  have HX := hide hx64
  have hkd := h.good.kinds
  have HKD := hide hkd
  have HG := hide h.good
  have HIS2 := hide (fun (W : World) (hR : Ref W g rl ra m ca K.k n N cs v nm st) => show Calls Try.prog 11 #[.pointer (some ⟨g, 0, none⟩), .int .i64 (i : Int), .int .i64 2] W fun e w' => e = .returned (.bool false) ∧ W = w' from (ris_same (i : Int) 2 g rl N n _ _ cs W hR.lst HKD.out hN HX.out).mono (by rintro e w' ⟨rfl, hm⟩; exact ⟨by rw [show decide (0 ≤ (i : Int) ∧ (i : Int) < (N : Int) ∧ kindOf cs ((i : Int)).toNat = 2) = false from decide_eq_false hk2], hm⟩))
  have HIS1 := hide (fun (W : World) (hR : Ref W g rl ra m ca K.k n N cs v nm st) => show Calls Try.prog 11 #[.pointer (some ⟨g, 0, none⟩), .int .i64 (i : Int), .int .i64 1] W fun e w' => e = .returned (.bool false) ∧ W = w' from (ris_same (i : Int) 1 g rl N n _ _ cs W hR.lst HKD.out hN HX.out).mono (by rintro e w' ⟨rfl, hm⟩; exact ⟨by rw [show decide (0 ≤ (i : Int) ∧ (i : Int) < (N : Int) ∧ kindOf cs ((i : Int)).toNat = 1) = false from decide_eq_false hk1], hm⟩))
  obtain ⟨l1, l2⟩ := h.locs i hi
  obtain ⟨val, hcur⟩ := h.good.cur l1 l2 st
  have HCU := hide hcur
  obtain ⟨own, old, new, y, c1, c2, c3, c4, c5, c6⟩ := hcur
  have HRC := hide (fun (W : World) (hR : Ref W g rl ra m ca K.k n N cs v nm st) => rcur_calls W hR (i : Int) i rfl hi own old new y c1 c2 c3 c4)
  have H6 := hide c6
  clear c2 c4 c6
  clear h hkd hx64 
  have HK2 := hide hk2
  have HK1 := hide hk1
  clear hk1 hk2
  go_enter Try.func18, Try.ntmps18
  go_wp2_with fail
  (with_reducible refine (sys_load _ HH.out.duo.sys (i : Int) i rfl hi).mono ?_)
  rintro e w1 ⟨rfl, hs1, hm1⟩
  have h1 := HH.out.duo.stepW hs1 hm1
  clear hs1
  go_wp2_with fail
  (with_reducible refine (sys_cur _ h1.sys (i : Int) i rfl hi val HCU.out).mono ?_)
  rintro e w2 ⟨rfl, hs2, hm2⟩
  have h2 := h1.stepW hs2 hm2
  have m2 := hm1.trans hm2
  clear hs2 h1 hm1 hm2
  have H2 := hide h2
  obtain ⟨cap, hb, hc, hne⟩ := h2.ref.open_
  have hlt := h2.ref.lt
  obtain ⟨cAt, -⟩ := h2.ref.row.cell hi
  have cY := (hc (y * 9 + 1) (by omega)).trans H6.out.h1
  have hi' : (i : Int) < (K.k : Int) := by omega
  have hy' : (y : Int) < (N : Int) := by omega
  clear hc h2
  have c_hb := hb.cell; have f_hb := hb.frozen; have l_hb := hb.lt
  go_wp2_with fail
  go_region_held3 (fun w' => w'.cell? ⟨g, 0, none⟩ = some (.int .i64 n) ∧ w'.cell? ⟨g, 1, none⟩ = some (.slice (some ⟨rl, 0, none⟩) N cap) ∧ w'.cell? ⟨g, 2, none⟩ = some (.slice (some ⟨ra, 0, none⟩) K.k ca) ∧ w'.cell? ⟨g, 3, none⟩ = some (.map (some m)) ∧ w'.cell? ⟨ra, i, none⟩ = some (.int .i64 (v i)) ∧ w'.cell? ⟨rl, y * 9 + 1, none⟩ = some (.int .i64 val) ∧ Mod nowhere w2 w') ((repeat' apply And.intro) <;> first | (simp [*]; done) | (go_simp; done) | exact (by repeat (first | with_reducible exact Mod.refl _ _ | with_reducible assumption | with_reducible refine Mod.alloc ?_ _ | with_reducible refine Mod.drew ?_ | with_reducible refine Mod.drewN ?_ _ | with_reducible refine Mod.setCell ?_ (by first | exact .inl rfl | (left; (try unfold from_); show _ ≤ _; first | omega | (simp; done) | (simp; omega)) | (right; first | omega | (simp; done) | (simp; omega))) _ | with_reducible refine Mod.call0 ?_ (by with_reducible assumption) | with_reducible refine Mod.call ?_ (by with_reducible assumption) (by first | (rintro _ rfl; first | exact .inl rfl | (right; (first | omega | (simp; done) | (simp; omega)))) | (rintro _ (rfl | rfl) <;> (right; (first | omega | (simp; done) | (simp; omega)))))))) ((go_at_call 30; (with_reducible refine (HRC.out _ (H2.out.ref.keep0 ((by repeat (first | with_reducible exact Mod.refl _ _ | with_reducible assumption | with_reducible refine Mod.alloc ?_ _ | with_reducible refine Mod.drew ?_ | with_reducible refine Mod.drewN ?_ _ | with_reducible refine Mod.setCell ?_ (by first | exact .inl rfl | (left; (try unfold from_); show _ ≤ _; first | omega | (simp; done) | (simp; omega)) | (right; first | omega | (simp; done) | (simp; omega))) _ | with_reducible refine Mod.call0 ?_ (by with_reducible assumption) | with_reducible refine Mod.call ?_ (by with_reducible assumption) (by first | (rintro _ rfl; first | exact .inl rfl | (right; (first | omega | (simp; done) | (simp; omega)))) | (rintro _ (rfl | rfl) <;> (right; (first | omega | (simp; done) | (simp; omega))))))) : Mod nowhere w2 _))).mono ?_); rintro e w8 ⟨rfl, hbw8⟩; have hzw8 := hbw8.size; (try simp at hzw8); (try (have ltw80 : g < w8.heap.size := (by omega); have lcw80 := fun o => hbw8.cell (b := g) o (by first | omega | (simp; done) | (simp; omega)) (id); have lfw80 := fun o => hbw8.frozen (b := g) o (by first | omega | (simp; done) | (simp; omega)) (id))); (try (have ltw81 : rl < w8.heap.size := (by omega); have lcw81 := fun o => hbw8.cell (b := rl) o (by first | omega | (simp; done) | (simp; omega)) (id); have lfw81 := fun o => hbw8.frozen (b := rl) o (by first | omega | (simp; done) | (simp; omega)) (id))); (try (have ltw82 : ra < w8.heap.size := (by omega); have lcw82 := fun o => hbw8.cell (b := ra) o (by first | omega | (simp; done) | (simp; omega)) (id); have lfw82 := fun o => hbw8.frozen (b := ra) o (by first | omega | (simp; done) | (simp; omega)) (id))); skip))
  all_goals go_wp2_with fail
  all_goals
    (with_reducible refine (loc_badS (i : Int) _ (H2.out.sys.keep0 ((by repeat (first | with_reducible exact Mod.refl _ _ | with_reducible assumption | with_reducible refine Mod.alloc ?_ _ | with_reducible refine Mod.drew ?_ | with_reducible refine Mod.drewN ?_ _ | with_reducible refine Mod.setCell ?_ (by first | exact .inl rfl | (left; (try unfold from_); show _ ≤ _; first | omega | (simp; done) | (simp; omega)) | (right; first | omega | (simp; done) | (simp; omega))) _ | with_reducible refine Mod.call0 ?_ (by with_reducible assumption) | with_reducible refine Mod.call ?_ (by with_reducible assumption) (by first | (rintro _ rfl; first | exact .inl rfl | (right; (first | omega | (simp; done) | (simp; omega)))) | (rintro _ (rfl | rfl) <;> (right; (first | omega | (simp; done) | (simp; omega))))))) : Mod nowhere w2 _)) HG.out HK2.out).mono ?_)
    rintro e w3 ⟨rfl, hm3⟩
    have y3 : Mod nowhere w2 w3 := (by repeat (first | with_reducible exact Mod.refl _ _ | with_reducible assumption | with_reducible refine Mod.alloc ?_ _ | with_reducible refine Mod.drew ?_ | with_reducible refine Mod.drewN ?_ _ | with_reducible refine Mod.setCell ?_ (by first | exact .inl rfl | (left; (try unfold from_); show _ ≤ _; first | omega | (simp; done) | (simp; omega)) | (right; first | omega | (simp; done) | (simp; omega))) _ | with_reducible refine Mod.call0 ?_ (by with_reducible assumption) | with_reducible refine Mod.call ?_ (by with_reducible assumption) (by first | (rintro _ rfl; first | exact .inl rfl | (right; (first | omega | (simp; done) | (simp; omega)))) | (rintro _ (rfl | rfl) <;> (right; (first | omega | (simp; done) | (simp; omega)))))))
    have z3 := y3.size
    go_wp2_with fail
    obtain ⟨W, hW⟩ : ∃ W, W = w3.alloc (.cells #[.int .i64 0, .int .i64 0, .int .i64 0, .int .i64 0, .int .i64 0, .int .i64 0, .int .i64 0, .int .i64 0, .int .i64 0] 45) := ⟨_, rfl⟩
    have yW : Mod nowhere w2 W := by rw [hW]; exact y3.alloc _
    have hl : Blk W w3.heap.size 45 #[.int .i64 0, .int .i64 0, .int .i64 0, .int .i64 0, .int .i64 0, .int .i64 0, .int .i64 0, .int .i64 0, .int .i64 0] := by rw [hW]; exact Blk.new _ _ _
    have hbW := hb.keep0 yW
    rw [← hW]
    clear hW
    have c_hl := hl.cell; have f_hl := hl.frozen; have l_hl := hl.lt; have c_hbW := hbW.cell; have f_hbW := hbW.frozen; have l_hbW := hbW.lt
    have hRW := hide (H2.out.ref.keep0 (yW.drew : Mod nowhere w2 W.drew))
    refine wp_region_still_lit (by kernel_rfl) (by kernel_rfl) ?_
    change wpStill _ _ W.drew _ _ _
    iterate 2 (with_reducible refine wpStill_step (fun K hK => ?_); go_simp; with_reducible refine hK _ ?_; clear hK K)
    with_reducible refine wpStill_step (fun K hK => ?_)
    go_simp
    with_reducible refine ⟨.bool false, ?_, hK _ ?_⟩
    · exact same_sym (HIS2.out W.drew hRW.out)
    clear hK K
    iterate 1 (with_reducible refine wpStill_step (fun K hK => ?_); go_simp; with_reducible refine hK _ ?_; clear hK K)
    iterate 13 (with_reducible refine wpStill_skip_ ?_ ?_; (kernel_rfl); intro K hK; go_simp; with_reducible refine hK _ ?_; clear hK K)
    iterate 4 (with_reducible refine wpStill_step (fun K hK => ?_); go_simp; with_reducible refine hK _ ?_; clear hK K)
    with_reducible refine wpStill_step (fun K hK => ?_)
    go_simp
    with_reducible refine ⟨.bool false, ?_, hK _ ?_⟩
    · exact same_sym (HIS2.out W.drew hRW.out)
    clear hK K
    iterate 11 (with_reducible refine wpStill_step (fun K hK => ?_); go_simp; with_reducible refine hK _ ?_; clear hK K)
    with_reducible refine wpStill_nil ?_
    show Exit.then _ _ _ _ W.drew
    go_wp2_with fail
    (with_reducible refine (val_badS (i : Int) _ (H2.out.sys.keep0 ((by repeat (first | with_reducible exact Mod.refl _ _ | with_reducible assumption | with_reducible refine Mod.alloc ?_ _ | with_reducible refine Mod.drew ?_ | with_reducible refine Mod.drewN ?_ _ | with_reducible refine Mod.setCell ?_ (by first | exact .inl rfl | (left; (try unfold from_); show _ ≤ _; first | omega | (simp; done) | (simp; omega)) | (right; first | omega | (simp; done) | (simp; omega))) _ | with_reducible refine Mod.call0 ?_ (by with_reducible assumption) | with_reducible refine Mod.call ?_ (by with_reducible assumption) (by first | (rintro _ rfl; first | exact .inl rfl | (right; (first | omega | (simp; done) | (simp; omega)))) | (rintro _ (rfl | rfl) <;> (right; (first | omega | (simp; done) | (simp; omega))))))) : Mod nowhere w2 _)) HG.out HK1.out).mono ?_)
    rintro e w10 ⟨rfl, hm10⟩
    have y10 : Mod nowhere w2 w10 := (by repeat (first | with_reducible exact Mod.refl _ _ | with_reducible assumption | with_reducible refine Mod.alloc ?_ _ | with_reducible refine Mod.drew ?_ | with_reducible refine Mod.drewN ?_ _ | with_reducible refine Mod.setCell ?_ (by first | exact .inl rfl | (left; (try unfold from_); show _ ≤ _; first | omega | (simp; done) | (simp; omega)) | (right; first | omega | (simp; done) | (simp; omega))) _ | with_reducible refine Mod.call0 ?_ (by with_reducible assumption) | with_reducible refine Mod.call ?_ (by with_reducible assumption) (by first | (rintro _ rfl; first | exact .inl rfl | (right; (first | omega | (simp; done) | (simp; omega)))) | (rintro _ (rfl | rfl) <;> (right; (first | omega | (simp; done) | (simp; omega)))))))
    have hb10 := hb.keep0 y10
    have c_hb10 := hb10.cell; have f_hb10 := hb10.frozen; have l_hb10 := hb10.lt
    go_wp2_with (go_at_call 11; (with_reducible refine (HIS1.out _ (H2.out.ref.keep0 ((by repeat (first | with_reducible exact Mod.refl _ _ | with_reducible assumption | with_reducible refine Mod.alloc ?_ _ | with_reducible refine Mod.drew ?_ | with_reducible refine Mod.drewN ?_ _ | with_reducible refine Mod.setCell ?_ (by first | exact .inl rfl | (left; (try unfold from_); show _ ≤ _; first | omega | (simp; done) | (simp; omega)) | (right; first | omega | (simp; done) | (simp; omega))) _ | with_reducible refine Mod.call0 ?_ (by with_reducible assumption) | with_reducible refine Mod.call ?_ (by with_reducible assumption) (by first | (rintro _ rfl; first | exact .inl rfl | (right; (first | omega | (simp; done) | (simp; omega)))) | (rintro _ (rfl | rfl) <;> (right; (first | omega | (simp; done) | (simp; omega))))))) : Mod nowhere w2 _))).mono ?_); rintro e w' ⟨rfl, rfl⟩)
    have yE : Mod nowhere w2 w10 := y10
    go_ret
    exact ⟨rfl, HH.out.duo' (H2.out.keep0 yE), m2.call0 yE⟩
set_option maxRecDepth 100000 in
set_option maxHeartbeats 8000000 in
theorem looks_in1 (w : World) (h : Sync w B K r N cs v nd M q st g rl ra m ca nm n) (x : Int) (hx64 : I64 x) (i : Nat) (hx : x = i) (hi : i < K.k) (hk : IsK cs N x 1) :
    Calls Try.prog 18 #[.pointer (some ⟨K.c, 0, none⟩), .pointer (some ⟨K.t, 0, none⟩), .pointer (some ⟨g, 0, none⟩), .int .i64 x] w fun e w' => e = .returned (.bool true) ∧ Sync w' B K r N cs v nd M q st g rl ra m ca nm n ∧ Mod (Wd K M q) w w' := by
  subst hx
  have HH := hide h
  have hN : N ≤ 4096 := by have := h.duo.sys.fit; have := h.duo.sys.m4; omega
  have k8 := h.duo.sys.k8
  have HX := hide hx64
  have hkd := h.good.kinds
  have HKD := hide hkd
  have HG := hide h.good
  have hjN : i < N := by have := hk.2.1; omega
  have hk2 : ¬ IsK cs N (i : Int) 2 := fun e => by have := hk.2.2.symm.trans e.2.2; cases this
  obtain ⟨x0, hrec⟩ := h.good.ver hjN hk.2.2
  have HREC := hide hrec
  have HIS2 := hide (fun (W : World) (hR : Ref W g rl ra m ca K.k n N cs v nm st) => show Calls Try.prog 11 #[.pointer (some ⟨g, 0, none⟩), .int .i64 (i : Int), .int .i64 2] W fun e w' => e = .returned (.bool false) ∧ W = w' from (ris_same (i : Int) 2 g rl N n _ _ cs W hR.lst HKD.out hN HX.out).mono (by rintro e w' ⟨rfl, hm⟩; exact ⟨by rw [show decide (0 ≤ (i : Int) ∧ (i : Int) < (N : Int) ∧ kindOf cs ((i : Int)).toNat = 2) = false from decide_eq_false hk2], hm⟩))
  have HIS1 := hide (fun (W : World) (hR : Ref W g rl ra m ca K.k n N cs v nm st) => show Calls Try.prog 11 #[.pointer (some ⟨g, 0, none⟩), .int .i64 (i : Int), .int .i64 1] W fun e w' => e = .returned (.bool true) ∧ W = w' from (ris_same (i : Int) 1 g rl N n _ _ cs W hR.lst HKD.out hN HX.out).mono (by rintro e w' ⟨rfl, hm⟩; exact ⟨by rw [show decide (0 ≤ (i : Int) ∧ (i : Int) < (N : Int) ∧ kindOf cs ((i : Int)).toNat = 1) = true from decide_eq_true hk], hm⟩))
  obtain ⟨l1, l2⟩ := h.locs i hi
  obtain ⟨val, hcur⟩ := h.good.cur l1 l2 st
  have HCU := hide hcur
  obtain ⟨own, old, new, y, c1, c2, c3, c4, c5, c6⟩ := hcur
  have HRC := hide (fun (W : World) (hR : Ref W g rl ra m ca K.k n N cs v nm st) => rcur_calls W hR (i : Int) i rfl hi own old new y c1 c2 c3 c4)
  have H6 := hide c6
  clear c2 c4 c6
  clear h hkd hx64 hrec hk
  have HK2 := hide hk2
  clear hk2
  go_enter Try.func18, Try.ntmps18
  go_wp2_with fail
  (with_reducible refine (sys_load _ HH.out.duo.sys (i : Int) i rfl hi).mono ?_)
  rintro e w1 ⟨rfl, hs1, hm1⟩
  have h1 := HH.out.duo.stepW hs1 hm1
  clear hs1
  go_wp2_with fail
  (with_reducible refine (sys_cur _ h1.sys (i : Int) i rfl hi val HCU.out).mono ?_)
  rintro e w2 ⟨rfl, hs2, hm2⟩
  have h2 := h1.stepW hs2 hm2
  have m2 := hm1.trans hm2
  clear hs2 h1 hm1 hm2
  have H2 := hide h2
  obtain ⟨cap, hb, hc, hne⟩ := h2.ref.open_
  have hlt := h2.ref.lt
  obtain ⟨cAt, -⟩ := h2.ref.row.cell hi
  have cY := (hc (y * 9 + 1) (by omega)).trans H6.out.h1
  have hi' : (i : Int) < (K.k : Int) := by omega
  have hy' : (y : Int) < (N : Int) := by omega
  have hj' : (i : Int) < (N : Int) := by omega
  have d0 := (hc (i * 9) (by omega)).trans HREC.out.h0
  have d1 := (hc (i * 9 + 1) (by omega)).trans HREC.out.h1
  have d2 := (hc (i * 9 + 2) (by omega)).trans HREC.out.h2
  have d3 := (hc (i * 9 + 3) (by omega)).trans HREC.out.h3
  have d4 := (hc (i * 9 + 4) (by omega)).trans HREC.out.h4
  have d5 := (hc (i * 9 + 5) (by omega)).trans HREC.out.h5
  have d6 := (hc (i * 9 + 6) (by omega)).trans HREC.out.h6
  have d7 := (hc (i * 9 + 7) (by omega)).trans HREC.out.h7
  have d8 := (hc (i * 9 + 8) (by omega)).trans HREC.out.h8
  clear hc h2
  have c_hb := hb.cell; have f_hb := hb.frozen; have l_hb := hb.lt
  go_wp2_with fail
  go_region_held3 (fun w' => w'.cell? ⟨g, 0, none⟩ = some (.int .i64 n) ∧ w'.cell? ⟨g, 1, none⟩ = some (.slice (some ⟨rl, 0, none⟩) N cap) ∧ w'.cell? ⟨g, 2, none⟩ = some (.slice (some ⟨ra, 0, none⟩) K.k ca) ∧ w'.cell? ⟨g, 3, none⟩ = some (.map (some m)) ∧ w'.cell? ⟨ra, i, none⟩ = some (.int .i64 (v i)) ∧ w'.cell? ⟨rl, y * 9 + 1, none⟩ = some (.int .i64 val) ∧ Mod nowhere w2 w') ((repeat' apply And.intro) <;> first | (simp [*]; done) | (go_simp; done) | exact (by repeat (first | with_reducible exact Mod.refl _ _ | with_reducible assumption | with_reducible refine Mod.alloc ?_ _ | with_reducible refine Mod.drew ?_ | with_reducible refine Mod.drewN ?_ _ | with_reducible refine Mod.setCell ?_ (by first | exact .inl rfl | (left; (try unfold from_); show _ ≤ _; first | omega | (simp; done) | (simp; omega)) | (right; first | omega | (simp; done) | (simp; omega))) _ | with_reducible refine Mod.call0 ?_ (by with_reducible assumption) | with_reducible refine Mod.call ?_ (by with_reducible assumption) (by first | (rintro _ rfl; first | exact .inl rfl | (right; (first | omega | (simp; done) | (simp; omega)))) | (rintro _ (rfl | rfl) <;> (right; (first | omega | (simp; done) | (simp; omega)))))))) ((go_at_call 30; (with_reducible refine (HRC.out _ (H2.out.ref.keep0 ((by repeat (first | with_reducible exact Mod.refl _ _ | with_reducible assumption | with_reducible refine Mod.alloc ?_ _ | with_reducible refine Mod.drew ?_ | with_reducible refine Mod.drewN ?_ _ | with_reducible refine Mod.setCell ?_ (by first | exact .inl rfl | (left; (try unfold from_); show _ ≤ _; first | omega | (simp; done) | (simp; omega)) | (right; first | omega | (simp; done) | (simp; omega))) _ | with_reducible refine Mod.call0 ?_ (by with_reducible assumption) | with_reducible refine Mod.call ?_ (by with_reducible assumption) (by first | (rintro _ rfl; first | exact .inl rfl | (right; (first | omega | (simp; done) | (simp; omega)))) | (rintro _ (rfl | rfl) <;> (right; (first | omega | (simp; done) | (simp; omega))))))) : Mod nowhere w2 _))).mono ?_); rintro e w8 ⟨rfl, hbw8⟩; have hzw8 := hbw8.size; (try simp at hzw8); (try (have ltw80 : g < w8.heap.size := (by omega); have lcw80 := fun o => hbw8.cell (b := g) o (by first | omega | (simp; done) | (simp; omega)) (id); have lfw80 := fun o => hbw8.frozen (b := g) o (by first | omega | (simp; done) | (simp; omega)) (id))); (try (have ltw81 : rl < w8.heap.size := (by omega); have lcw81 := fun o => hbw8.cell (b := rl) o (by first | omega | (simp; done) | (simp; omega)) (id); have lfw81 := fun o => hbw8.frozen (b := rl) o (by first | omega | (simp; done) | (simp; omega)) (id))); (try (have ltw82 : ra < w8.heap.size := (by omega); have lcw82 := fun o => hbw8.cell (b := ra) o (by first | omega | (simp; done) | (simp; omega)) (id); have lfw82 := fun o => hbw8.frozen (b := ra) o (by first | omega | (simp; done) | (simp; omega)) (id))); skip))
  all_goals go_wp2_with fail
  all_goals
    (with_reducible refine (loc_badS (i : Int) _ (H2.out.sys.keep0 ((by repeat (first | with_reducible exact Mod.refl _ _ | with_reducible assumption | with_reducible refine Mod.alloc ?_ _ | with_reducible refine Mod.drew ?_ | with_reducible refine Mod.drewN ?_ _ | with_reducible refine Mod.setCell ?_ (by first | exact .inl rfl | (left; (try unfold from_); show _ ≤ _; first | omega | (simp; done) | (simp; omega)) | (right; first | omega | (simp; done) | (simp; omega))) _ | with_reducible refine Mod.call0 ?_ (by with_reducible assumption) | with_reducible refine Mod.call ?_ (by with_reducible assumption) (by first | (rintro _ rfl; first | exact .inl rfl | (right; (first | omega | (simp; done) | (simp; omega)))) | (rintro _ (rfl | rfl) <;> (right; (first | omega | (simp; done) | (simp; omega))))))) : Mod nowhere w2 _)) HG.out HK2.out).mono ?_)
    rintro e w3 ⟨rfl, hm3⟩
    have y3 : Mod nowhere w2 w3 := (by repeat (first | with_reducible exact Mod.refl _ _ | with_reducible assumption | with_reducible refine Mod.alloc ?_ _ | with_reducible refine Mod.drew ?_ | with_reducible refine Mod.drewN ?_ _ | with_reducible refine Mod.setCell ?_ (by first | exact .inl rfl | (left; (try unfold from_); show _ ≤ _; first | omega | (simp; done) | (simp; omega)) | (right; first | omega | (simp; done) | (simp; omega))) _ | with_reducible refine Mod.call0 ?_ (by with_reducible assumption) | with_reducible refine Mod.call ?_ (by with_reducible assumption) (by first | (rintro _ rfl; first | exact .inl rfl | (right; (first | omega | (simp; done) | (simp; omega)))) | (rintro _ (rfl | rfl) <;> (right; (first | omega | (simp; done) | (simp; omega)))))))
    have z3 := y3.size
    go_wp2_with fail
    obtain ⟨W, hW⟩ : ∃ W, W = w3.alloc (.cells #[.int .i64 0, .int .i64 0, .int .i64 0, .int .i64 0, .int .i64 0, .int .i64 0, .int .i64 0, .int .i64 0, .int .i64 0] 45) := ⟨_, rfl⟩
    have yW : Mod nowhere w2 W := by rw [hW]; exact y3.alloc _
    have hl : Blk W w3.heap.size 45 #[.int .i64 0, .int .i64 0, .int .i64 0, .int .i64 0, .int .i64 0, .int .i64 0, .int .i64 0, .int .i64 0, .int .i64 0] := by rw [hW]; exact Blk.new _ _ _
    have hbW := hb.keep0 yW
    rw [← hW]
    clear hW
    have c_hl := hl.cell; have f_hl := hl.frozen; have l_hl := hl.lt; have c_hbW := hbW.cell; have f_hbW := hbW.frozen; have l_hbW := hbW.lt
    have hRW := hide (H2.out.ref.keep0 (yW.drew : Mod nowhere w2 W.drew))
    refine wp_region_still_lit (by kernel_rfl) (by kernel_rfl) ?_
    change wpStill _ _ W.drew _ _ _
    iterate 2 (with_reducible refine wpStill_step (fun K hK => ?_); go_simp; with_reducible refine hK _ ?_; clear hK K)
    with_reducible refine wpStill_step (fun K hK => ?_)
    go_simp
    with_reducible refine ⟨.bool false, ?_, hK _ ?_⟩
    · exact same_sym (HIS2.out W.drew hRW.out)
    clear hK K
    iterate 1 (with_reducible refine wpStill_step (fun K hK => ?_); go_simp; with_reducible refine hK _ ?_; clear hK K)
    iterate 13 (with_reducible refine wpStill_skip_ ?_ ?_; (kernel_rfl); intro K hK; go_simp; with_reducible refine hK _ ?_; clear hK K)
    iterate 4 (with_reducible refine wpStill_step (fun K hK => ?_); go_simp; with_reducible refine hK _ ?_; clear hK K)
    with_reducible refine wpStill_step (fun K hK => ?_)
    go_simp
    with_reducible refine ⟨.bool false, ?_, hK _ ?_⟩
    · exact same_sym (HIS2.out W.drew hRW.out)
    clear hK K
    iterate 11 (with_reducible refine wpStill_step (fun K hK => ?_); go_simp; with_reducible refine hK _ ?_; clear hK K)
    with_reducible refine wpStill_nil ?_
    show Exit.then _ _ _ _ W.drew
    go_wp2_with fail
    (with_reducible refine (sys_val _ (H2.out.sys.keep0 ((by repeat (first | with_reducible exact Mod.refl _ _ | with_reducible assumption | with_reducible refine Mod.alloc ?_ _ | with_reducible refine Mod.drew ?_ | with_reducible refine Mod.drewN ?_ _ | with_reducible refine Mod.setCell ?_ (by first | exact .inl rfl | (left; (try unfold from_); show _ ≤ _; first | omega | (simp; done) | (simp; omega)) | (right; first | omega | (simp; done) | (simp; omega))) _ | with_reducible refine Mod.call0 ?_ (by with_reducible assumption) | with_reducible refine Mod.call ?_ (by with_reducible assumption) (by first | (rintro _ rfl; first | exact .inl rfl | (right; (first | omega | (simp; done) | (simp; omega)))) | (rintro _ (rfl | rfl) <;> (right; (first | omega | (simp; done) | (simp; omega))))))) : Mod nowhere w2 _)) (i : Int) i x0 rfl hjN HREC.out).mono ?_)
    rintro e w10 ⟨rfl, hm10⟩
    have y10 : Mod nowhere w2 w10 := (by repeat (first | with_reducible exact Mod.refl _ _ | with_reducible assumption | with_reducible refine Mod.alloc ?_ _ | with_reducible refine Mod.drew ?_ | with_reducible refine Mod.drewN ?_ _ | with_reducible refine Mod.setCell ?_ (by first | exact .inl rfl | (left; (try unfold from_); show _ ≤ _; first | omega | (simp; done) | (simp; omega)) | (right; first | omega | (simp; done) | (simp; omega))) _ | with_reducible refine Mod.call0 ?_ (by with_reducible assumption) | with_reducible refine Mod.call ?_ (by with_reducible assumption) (by first | (rintro _ rfl; first | exact .inl rfl | (right; (first | omega | (simp; done) | (simp; omega)))) | (rintro _ (rfl | rfl) <;> (right; (first | omega | (simp; done) | (simp; omega)))))))
    have hb10 := hb.keep0 y10
    have dv := (y10.cell (i * 9 + 1) hlt.2.1 id).trans d1
    have lr10 : rl < w10.heap.size := Nat.lt_of_lt_of_le hlt.2.1 y10.size
    have c_hb10 := hb10.cell; have f_hb10 := hb10.frozen; have l_hb10 := hb10.lt
    go_wp2_with (go_at_call 11; (with_reducible refine (HIS1.out _ (H2.out.ref.keep0 ((by repeat (first | with_reducible exact Mod.refl _ _ | with_reducible assumption | with_reducible refine Mod.alloc ?_ _ | with_reducible refine Mod.drew ?_ | with_reducible refine Mod.drewN ?_ _ | with_reducible refine Mod.setCell ?_ (by first | exact .inl rfl | (left; (try unfold from_); show _ ≤ _; first | omega | (simp; done) | (simp; omega)) | (right; first | omega | (simp; done) | (simp; omega))) _ | with_reducible refine Mod.call0 ?_ (by with_reducible assumption) | with_reducible refine Mod.call ?_ (by with_reducible assumption) (by first | (rintro _ rfl; first | exact .inl rfl | (right; (first | omega | (simp; done) | (simp; omega)))) | (rintro _ (rfl | rfl) <;> (right; (first | omega | (simp; done) | (simp; omega))))))) : Mod nowhere w2 _))).mono ?_); rintro e w' ⟨rfl, rfl⟩)
    have yE : Mod nowhere w2 w10 := y10
    go_ret
    exact ⟨rfl, HH.out.duo' (H2.out.keep0 yE), m2.call0 yE⟩
set_option maxRecDepth 100000 in
set_option maxHeartbeats 8000000 in
theorem looks_in2 (w : World) (h : Sync w B K r N cs v nd M q st g rl ra m ca nm n) (x : Int) (hx64 : I64 x) (i : Nat) (hx : x = i) (hi : i < K.k) (hk : IsK cs N x 2) :
    Calls Try.prog 18 #[.pointer (some ⟨K.c, 0, none⟩), .pointer (some ⟨K.t, 0, none⟩), .pointer (some ⟨g, 0, none⟩), .int .i64 x] w fun e w' => e = .returned (.bool true) ∧ Sync w' B K r N cs v nd M q st g rl ra m ca nm n ∧ Mod (Wd K M q) w w' := by
  subst hx
  have HH := hide h
  have hN : N ≤ 4096 := by have := h.duo.sys.fit; have := h.duo.sys.m4; omega
  have k8 := h.duo.sys.k8
  have HX := hide hx64
  have hkd := h.good.kinds
  have HKD := hide hkd
  have HG := hide h.good
  have hjN : i < N := by have := hk.2.1; omega
  have hk1 : ¬ IsK cs N (i : Int) 1 := fun e => by have := hk.2.2.symm.trans e.2.2; cases this
  obtain ⟨own0, a0, b0, x0, y0, -, la, lb, hrec, -, -⟩ := h.good.loc hjN hk.2.2
  have HREC := hide hrec
  have HIS2 := hide (fun (W : World) (hR : Ref W g rl ra m ca K.k n N cs v nm st) => show Calls Try.prog 11 #[.pointer (some ⟨g, 0, none⟩), .int .i64 (i : Int), .int .i64 2] W fun e w' => e = .returned (.bool true) ∧ W = w' from (ris_same (i : Int) 2 g rl N n _ _ cs W hR.lst HKD.out hN HX.out).mono (by rintro e w' ⟨rfl, hm⟩; exact ⟨by rw [show decide (0 ≤ (i : Int) ∧ (i : Int) < (N : Int) ∧ kindOf cs ((i : Int)).toNat = 2) = true from decide_eq_true hk], hm⟩))
  have HIS1 := hide (fun (W : World) (hR : Ref W g rl ra m ca K.k n N cs v nm st) => show Calls Try.prog 11 #[.pointer (some ⟨g, 0, none⟩), .int .i64 (i : Int), .int .i64 1] W fun e w' => e = .returned (.bool false) ∧ W = w' from (ris_same (i : Int) 1 g rl N n _ _ cs W hR.lst HKD.out hN HX.out).mono (by rintro e w' ⟨rfl, hm⟩; exact ⟨by rw [show decide (0 ≤ (i : Int) ∧ (i : Int) < (N : Int) ∧ kindOf cs ((i : Int)).toNat = 1) = false from decide_eq_false hk1], hm⟩))
  obtain ⟨l1, l2⟩ := h.locs i hi
  obtain ⟨val, hcur⟩ := h.good.cur l1 l2 st
  have HCU := hide hcur
  obtain ⟨own, old, new, y, c1, c2, c3, c4, c5, c6⟩ := hcur
  have HRC := hide (fun (W : World) (hR : Ref W g rl ra m ca K.k n N cs v nm st) => rcur_calls W hR (i : Int) i rfl hi own old new y c1 c2 c3 c4)
  have H6 := hide c6
  clear c2 c4 c6
  clear h hkd hx64 hrec hk
  have HK1 := hide hk1
  clear hk1
  go_enter Try.func18, Try.ntmps18
  go_wp2_with fail
  (with_reducible refine (sys_load _ HH.out.duo.sys (i : Int) i rfl hi).mono ?_)
  rintro e w1 ⟨rfl, hs1, hm1⟩
  have h1 := HH.out.duo.stepW hs1 hm1
  clear hs1
  go_wp2_with fail
  (with_reducible refine (sys_cur _ h1.sys (i : Int) i rfl hi val HCU.out).mono ?_)
  rintro e w2 ⟨rfl, hs2, hm2⟩
  have h2 := h1.stepW hs2 hm2
  have m2 := hm1.trans hm2
  clear hs2 h1 hm1 hm2
  have H2 := hide h2
  obtain ⟨cap, hb, hc, hne⟩ := h2.ref.open_
  have hlt := h2.ref.lt
  obtain ⟨cAt, -⟩ := h2.ref.row.cell hi
  have cY := (hc (y * 9 + 1) (by omega)).trans H6.out.h1
  have hi' : (i : Int) < (K.k : Int) := by omega
  have hy' : (y : Int) < (N : Int) := by omega
  have hj' : (i : Int) < (N : Int) := by omega
  have d0 := (hc (i * 9) (by omega)).trans HREC.out.h0
  have d1 := (hc (i * 9 + 1) (by omega)).trans HREC.out.h1
  have d2 := (hc (i * 9 + 2) (by omega)).trans HREC.out.h2
  have d3 := (hc (i * 9 + 3) (by omega)).trans HREC.out.h3
  have d4 := (hc (i * 9 + 4) (by omega)).trans HREC.out.h4
  have d5 := (hc (i * 9 + 5) (by omega)).trans HREC.out.h5
  have d6 := (hc (i * 9 + 6) (by omega)).trans HREC.out.h6
  have d7 := (hc (i * 9 + 7) (by omega)).trans HREC.out.h7
  have d8 := (hc (i * 9 + 8) (by omega)).trans HREC.out.h8
  clear hc h2
  have c_hb := hb.cell; have f_hb := hb.frozen; have l_hb := hb.lt
  go_wp2_with fail
  go_region_held3 (fun w' => w'.cell? ⟨g, 0, none⟩ = some (.int .i64 n) ∧ w'.cell? ⟨g, 1, none⟩ = some (.slice (some ⟨rl, 0, none⟩) N cap) ∧ w'.cell? ⟨g, 2, none⟩ = some (.slice (some ⟨ra, 0, none⟩) K.k ca) ∧ w'.cell? ⟨g, 3, none⟩ = some (.map (some m)) ∧ w'.cell? ⟨ra, i, none⟩ = some (.int .i64 (v i)) ∧ w'.cell? ⟨rl, y * 9 + 1, none⟩ = some (.int .i64 val) ∧ Mod nowhere w2 w') ((repeat' apply And.intro) <;> first | (simp [*]; done) | (go_simp; done) | exact (by repeat (first | with_reducible exact Mod.refl _ _ | with_reducible assumption | with_reducible refine Mod.alloc ?_ _ | with_reducible refine Mod.drew ?_ | with_reducible refine Mod.drewN ?_ _ | with_reducible refine Mod.setCell ?_ (by first | exact .inl rfl | (left; (try unfold from_); show _ ≤ _; first | omega | (simp; done) | (simp; omega)) | (right; first | omega | (simp; done) | (simp; omega))) _ | with_reducible refine Mod.call0 ?_ (by with_reducible assumption) | with_reducible refine Mod.call ?_ (by with_reducible assumption) (by first | (rintro _ rfl; first | exact .inl rfl | (right; (first | omega | (simp; done) | (simp; omega)))) | (rintro _ (rfl | rfl) <;> (right; (first | omega | (simp; done) | (simp; omega)))))))) ((go_at_call 30; (with_reducible refine (HRC.out _ (H2.out.ref.keep0 ((by repeat (first | with_reducible exact Mod.refl _ _ | with_reducible assumption | with_reducible refine Mod.alloc ?_ _ | with_reducible refine Mod.drew ?_ | with_reducible refine Mod.drewN ?_ _ | with_reducible refine Mod.setCell ?_ (by first | exact .inl rfl | (left; (try unfold from_); show _ ≤ _; first | omega | (simp; done) | (simp; omega)) | (right; first | omega | (simp; done) | (simp; omega))) _ | with_reducible refine Mod.call0 ?_ (by with_reducible assumption) | with_reducible refine Mod.call ?_ (by with_reducible assumption) (by first | (rintro _ rfl; first | exact .inl rfl | (right; (first | omega | (simp; done) | (simp; omega)))) | (rintro _ (rfl | rfl) <;> (right; (first | omega | (simp; done) | (simp; omega))))))) : Mod nowhere w2 _))).mono ?_); rintro e w8 ⟨rfl, hbw8⟩; have hzw8 := hbw8.size; (try simp at hzw8); (try (have ltw80 : g < w8.heap.size := (by omega); have lcw80 := fun o => hbw8.cell (b := g) o (by first | omega | (simp; done) | (simp; omega)) (id); have lfw80 := fun o => hbw8.frozen (b := g) o (by first | omega | (simp; done) | (simp; omega)) (id))); (try (have ltw81 : rl < w8.heap.size := (by omega); have lcw81 := fun o => hbw8.cell (b := rl) o (by first | omega | (simp; done) | (simp; omega)) (id); have lfw81 := fun o => hbw8.frozen (b := rl) o (by first | omega | (simp; done) | (simp; omega)) (id))); (try (have ltw82 : ra < w8.heap.size := (by omega); have lcw82 := fun o => hbw8.cell (b := ra) o (by first | omega | (simp; done) | (simp; omega)) (id); have lfw82 := fun o => hbw8.frozen (b := ra) o (by first | omega | (simp; done) | (simp; omega)) (id))); skip))
  all_goals go_wp2_with fail
  all_goals
    (with_reducible refine (sys_loc _ (H2.out.sys.keep0 ((by repeat (first | with_reducible exact Mod.refl _ _ | with_reducible assumption | with_reducible refine Mod.alloc ?_ _ | with_reducible refine Mod.drew ?_ | with_reducible refine Mod.drewN ?_ _ | with_reducible refine Mod.setCell ?_ (by first | exact .inl rfl | (left; (try unfold from_); show _ ≤ _; first | omega | (simp; done) | (simp; omega)) | (right; first | omega | (simp; done) | (simp; omega))) _ | with_reducible refine Mod.call0 ?_ (by with_reducible assumption) | with_reducible refine Mod.call ?_ (by with_reducible assumption) (by first | (rintro _ rfl; first | exact .inl rfl | (right; (first | omega | (simp; done) | (simp; omega)))) | (rintro _ (rfl | rfl) <;> (right; (first | omega | (simp; done) | (simp; omega))))))) : Mod nowhere w2 _)) (i : Int) i own0 (a0 : Int) (b0 : Int) rfl hjN HREC.out).mono ?_)
    rintro e w3 ⟨rfl, hm3⟩
    have y3 : Mod nowhere w2 w3 := (by repeat (first | with_reducible exact Mod.refl _ _ | with_reducible assumption | with_reducible refine Mod.alloc ?_ _ | with_reducible refine Mod.drew ?_ | with_reducible refine Mod.drewN ?_ _ | with_reducible refine Mod.setCell ?_ (by first | exact .inl rfl | (left; (try unfold from_); show _ ≤ _; first | omega | (simp; done) | (simp; omega)) | (right; first | omega | (simp; done) | (simp; omega))) _ | with_reducible refine Mod.call0 ?_ (by with_reducible assumption) | with_reducible refine Mod.call ?_ (by with_reducible assumption) (by first | (rintro _ rfl; first | exact .inl rfl | (right; (first | omega | (simp; done) | (simp; omega)))) | (rintro _ (rfl | rfl) <;> (right; (first | omega | (simp; done) | (simp; omega)))))))
    have z3 := y3.size
    go_wp2_with fail
    obtain ⟨W, hW⟩ : ∃ W, W = w3.alloc (.cells #[.int .i64 2, .int .i64 0, .int .i64 own0, .int .i64 (a0 : Int), .int .i64 (b0 : Int), .int .i64 0, .int .i64 0, .int .i64 0, .int .i64 0] 45) := ⟨_, rfl⟩
    have yW : Mod nowhere w2 W := by rw [hW]; exact y3.alloc _
    have hl : Blk W w3.heap.size 45 #[.int .i64 2, .int .i64 0, .int .i64 own0, .int .i64 (a0 : Int), .int .i64 (b0 : Int), .int .i64 0, .int .i64 0, .int .i64 0, .int .i64 0] := by rw [hW]; exact Blk.new _ _ _
    have hbW := hb.keep0 yW
    have hcW : ∀ z, W.cell? ⟨rl, z, none⟩ = w2.cell? ⟨rl, z, none⟩ := fun z => yW.cell z hlt.2.1 id
    rw [← hW]
    clear hW
    rw [← hcW] at d0
    rw [← hcW] at d1
    rw [← hcW] at d2
    rw [← hcW] at d3
    rw [← hcW] at d4
    rw [← hcW] at d5
    rw [← hcW] at d6
    rw [← hcW] at d7
    rw [← hcW] at d8
    have lrW : rl < W.heap.size := Nat.lt_of_lt_of_le hlt.2.1 yW.size
    have c_hl := hl.cell; have f_hl := hl.frozen; have l_hl := hl.lt; have c_hbW := hbW.cell; have f_hbW := hbW.frozen; have l_hbW := hbW.lt
    have hRW := hide (H2.out.ref.keep0 (yW.drew : Mod nowhere w2 W.drew))
    refine wp_region_still_lit (by kernel_rfl) (by kernel_rfl) ?_
    change wpStill _ _ W.drew _ _ _
    iterate 2 (with_reducible refine wpStill_step (fun K hK => ?_); go_simp; with_reducible refine hK _ ?_; clear hK K)
    with_reducible refine wpStill_step (fun K hK => ?_)
    go_simp
    with_reducible refine ⟨.bool true, ?_, hK _ ?_⟩
    · exact same_sym (HIS2.out W.drew hRW.out)
    clear hK K
    iterate 18 (with_reducible refine wpStill_step (fun K hK => ?_); go_simp; with_reducible refine hK _ ?_; clear hK K)
    with_reducible refine wpStill_step (fun K hK => ?_)
    go_simp
    with_reducible refine ⟨.bool true, ?_, hK _ ?_⟩
    · exact same_sym (HIS2.out W.drew hRW.out)
    clear hK K
    iterate 2 (with_reducible refine wpStill_step (fun K hK => ?_); go_simp; with_reducible refine hK _ ?_; clear hK K)
    iterate 7 (with_reducible refine wpStill_skip_ ?_ ?_; (kernel_rfl); intro K hK; go_simp; with_reducible refine hK _ ?_; clear hK K)
    iterate 2 (with_reducible refine wpStill_step (fun K hK => ?_); go_simp; with_reducible refine hK _ ?_; clear hK K)
    with_reducible refine wpStill_nil ?_
    show Exit.then _ _ _ _ W.drew
    go_wp2_with fail
    (with_reducible refine (val_badS (i : Int) _ (H2.out.sys.keep0 ((by repeat (first | with_reducible exact Mod.refl _ _ | with_reducible assumption | with_reducible refine Mod.alloc ?_ _ | with_reducible refine Mod.drew ?_ | with_reducible refine Mod.drewN ?_ _ | with_reducible refine Mod.setCell ?_ (by first | exact .inl rfl | (left; (try unfold from_); show _ ≤ _; first | omega | (simp; done) | (simp; omega)) | (right; first | omega | (simp; done) | (simp; omega))) _ | with_reducible refine Mod.call0 ?_ (by with_reducible assumption) | with_reducible refine Mod.call ?_ (by with_reducible assumption) (by first | (rintro _ rfl; first | exact .inl rfl | (right; (first | omega | (simp; done) | (simp; omega)))) | (rintro _ (rfl | rfl) <;> (right; (first | omega | (simp; done) | (simp; omega))))))) : Mod nowhere w2 _)) HG.out HK1.out).mono ?_)
    rintro e w10 ⟨rfl, hm10⟩
    have y10 : Mod nowhere w2 w10 := (by repeat (first | with_reducible exact Mod.refl _ _ | with_reducible assumption | with_reducible refine Mod.alloc ?_ _ | with_reducible refine Mod.drew ?_ | with_reducible refine Mod.drewN ?_ _ | with_reducible refine Mod.setCell ?_ (by first | exact .inl rfl | (left; (try unfold from_); show _ ≤ _; first | omega | (simp; done) | (simp; omega)) | (right; first | omega | (simp; done) | (simp; omega))) _ | with_reducible refine Mod.call0 ?_ (by with_reducible assumption) | with_reducible refine Mod.call ?_ (by with_reducible assumption) (by first | (rintro _ rfl; first | exact .inl rfl | (right; (first | omega | (simp; done) | (simp; omega)))) | (rintro _ (rfl | rfl) <;> (right; (first | omega | (simp; done) | (simp; omega)))))))
    have hb10 := hb.keep0 y10
    have c_hb10 := hb10.cell; have f_hb10 := hb10.frozen; have l_hb10 := hb10.lt
    go_wp2_with (go_at_call 11; (with_reducible refine (HIS1.out _ (H2.out.ref.keep0 ((by repeat (first | with_reducible exact Mod.refl _ _ | with_reducible assumption | with_reducible refine Mod.alloc ?_ _ | with_reducible refine Mod.drew ?_ | with_reducible refine Mod.drewN ?_ _ | with_reducible refine Mod.setCell ?_ (by first | exact .inl rfl | (left; (try unfold from_); show _ ≤ _; first | omega | (simp; done) | (simp; omega)) | (right; first | omega | (simp; done) | (simp; omega))) _ | with_reducible refine Mod.call0 ?_ (by with_reducible assumption) | with_reducible refine Mod.call ?_ (by with_reducible assumption) (by first | (rintro _ rfl; first | exact .inl rfl | (right; (first | omega | (simp; done) | (simp; omega)))) | (rintro _ (rfl | rfl) <;> (right; (first | omega | (simp; done) | (simp; omega))))))) : Mod nowhere w2 _))).mono ?_); rintro e w' ⟨rfl, rfl⟩)
    have yE : Mod nowhere w2 w10 := y10
    go_ret
    exact ⟨rfl, HH.out.duo' (H2.out.keep0 yE), m2.call0 yE⟩
set_option maxRecDepth 100000 in
set_option maxHeartbeats 8000000 in
theorem looks_out0 (w : World) (h : Sync w B K r N cs v nd M q st g rl ra m ca nm n) (x : Int) (hx64 : I64 x) (hx : x < 0 ∨ (K.k : Int) ≤ x) (hk2 : ¬ IsK cs N x 2) (hk1 : ¬ IsK cs N x 1) :
    Calls Try.prog 18 #[.pointer (some ⟨K.c, 0, none⟩), .pointer (some ⟨K.t, 0, none⟩), .pointer (some ⟨g, 0, none⟩), .int .i64 x] w fun e w' => e = .returned (.bool true) ∧ Sync w' B K r N cs v nd M q st g rl ra m ca nm n ∧ Mod (Wd K M q) w w' := by
  have HH := hide h
  have hN : N ≤ 4096 := by have := h.duo.sys.fit; have := h.duo.sys.m4; omega
  have k8 := h.duo.sys.k8
  have HX := hide hx64
  have hkd := h.good.kinds
  have HKD := hide hkd
  have HG := hide h.good
  have HIS2 := hide (fun (W : World) (hR : Ref W g rl ra m ca K.k n N cs v nm st) => show Calls Try.prog 11 #[.pointer (some ⟨g, 0, none⟩), .int .i64 x, .int .i64 2] W fun e w' => e = .returned (.bool false) ∧ W = w' from (ris_same x 2 g rl N n _ _ cs W hR.lst HKD.out hN HX.out).mono (by rintro e w' ⟨rfl, hm⟩; exact ⟨by rw [show decide (0 ≤ x ∧ x < (N : Int) ∧ kindOf cs (x).toNat = 2) = false from decide_eq_false hk2], hm⟩))
  have HIS1 := hide (fun (W : World) (hR : Ref W g rl ra m ca K.k n N cs v nm st) => show Calls Try.prog 11 #[.pointer (some ⟨g, 0, none⟩), .int .i64 x, .int .i64 1] W fun e w' => e = .returned (.bool false) ∧ W = w' from (ris_same x 1 g rl N n _ _ cs W hR.lst HKD.out hN HX.out).mono (by rintro e w' ⟨rfl, hm⟩; exact ⟨by rw [show decide (0 ≤ x ∧ x < (N : Int) ∧ kindOf cs (x).toNat = 1) = false from decide_eq_false hk1], hm⟩))
  clear h hkd hx64 
  have HK2 := hide hk2
  have HK1 := hide hk1
  clear hk1 hk2
  go_enter Try.func18, Try.ntmps18
  go_wp2_with fail
  (with_reducible refine (cload_out K.c K.a K.rc K.k K.ws x _ HH.out.duo.sys.cf.cls hx).mono ?_)
  rintro e w1 ⟨rfl, hm1⟩
  have h1 := HH.out.duo.keep0 hm1
  go_wp2_with fail
  (with_reducible refine (cur_out K.c K.a K.rc K.k K.ws _ x _ h1.sys.cf.cls hx).mono ?_)
  rintro e w2 ⟨rfl, hm2⟩
  have h2 := h1.keep0 hm2
  have m2 : Mod (Wd K M q) w w2 := (hm1.mono fun _ x => x.elim).call0 hm2
  clear h1 hm1 hm2
  have H2 := hide h2
  obtain ⟨cap, hb, hc, hne⟩ := h2.ref.open_
  have hlt := h2.ref.lt
  clear hc h2
  have c_hb := hb.cell; have f_hb := hb.frozen; have l_hb := hb.lt
  go_wp2_with fail
  all_goals
    (with_reducible refine (loc_badS x _ (H2.out.sys.keep0 ((by repeat (first | with_reducible exact Mod.refl _ _ | with_reducible assumption | with_reducible refine Mod.alloc ?_ _ | with_reducible refine Mod.drew ?_ | with_reducible refine Mod.drewN ?_ _ | with_reducible refine Mod.setCell ?_ (by first | exact .inl rfl | (left; (try unfold from_); show _ ≤ _; first | omega | (simp; done) | (simp; omega)) | (right; first | omega | (simp; done) | (simp; omega))) _ | with_reducible refine Mod.call0 ?_ (by with_reducible assumption) | with_reducible refine Mod.call ?_ (by with_reducible assumption) (by first | (rintro _ rfl; first | exact .inl rfl | (right; (first | omega | (simp; done) | (simp; omega)))) | (rintro _ (rfl | rfl) <;> (right; (first | omega | (simp; done) | (simp; omega))))))) : Mod nowhere w2 _)) HG.out HK2.out).mono ?_)
    rintro e w3 ⟨rfl, hm3⟩
    have y3 : Mod nowhere w2 w3 := (by repeat (first | with_reducible exact Mod.refl _ _ | with_reducible assumption | with_reducible refine Mod.alloc ?_ _ | with_reducible refine Mod.drew ?_ | with_reducible refine Mod.drewN ?_ _ | with_reducible refine Mod.setCell ?_ (by first | exact .inl rfl | (left; (try unfold from_); show _ ≤ _; first | omega | (simp; done) | (simp; omega)) | (right; first | omega | (simp; done) | (simp; omega))) _ | with_reducible refine Mod.call0 ?_ (by with_reducible assumption) | with_reducible refine Mod.call ?_ (by with_reducible assumption) (by first | (rintro _ rfl; first | exact .inl rfl | (right; (first | omega | (simp; done) | (simp; omega)))) | (rintro _ (rfl | rfl) <;> (right; (first | omega | (simp; done) | (simp; omega)))))))
    have z3 := y3.size
    go_wp2_with fail
    obtain ⟨W, hW⟩ : ∃ W, W = w3.alloc (.cells #[.int .i64 0, .int .i64 0, .int .i64 0, .int .i64 0, .int .i64 0, .int .i64 0, .int .i64 0, .int .i64 0, .int .i64 0] 45) := ⟨_, rfl⟩
    have yW : Mod nowhere w2 W := by rw [hW]; exact y3.alloc _
    have hl : Blk W w3.heap.size 45 #[.int .i64 0, .int .i64 0, .int .i64 0, .int .i64 0, .int .i64 0, .int .i64 0, .int .i64 0, .int .i64 0, .int .i64 0] := by rw [hW]; exact Blk.new _ _ _
    have hbW := hb.keep0 yW
    rw [← hW]
    clear hW
    have c_hl := hl.cell; have f_hl := hl.frozen; have l_hl := hl.lt; have c_hbW := hbW.cell; have f_hbW := hbW.frozen; have l_hbW := hbW.lt
    have hRW := hide (H2.out.ref.keep0 (yW.drew : Mod nowhere w2 W.drew))
    refine wp_region_still_lit (by kernel_rfl) (by kernel_rfl) ?_
    change wpStill _ _ W.drew _ _ _
    iterate 2 (with_reducible refine wpStill_step (fun K hK => ?_); go_simp; with_reducible refine hK _ ?_; clear hK K)
    with_reducible refine wpStill_step (fun K hK => ?_)
    go_simp
    with_reducible refine ⟨.bool false, ?_, hK _ ?_⟩
    · exact same_sym (HIS2.out W.drew hRW.out)
    clear hK K
    iterate 1 (with_reducible refine wpStill_step (fun K hK => ?_); go_simp; with_reducible refine hK _ ?_; clear hK K)
    iterate 13 (with_reducible refine wpStill_skip_ ?_ ?_; (kernel_rfl); intro K hK; go_simp; with_reducible refine hK _ ?_; clear hK K)
    iterate 4 (with_reducible refine wpStill_step (fun K hK => ?_); go_simp; with_reducible refine hK _ ?_; clear hK K)
    with_reducible refine wpStill_step (fun K hK => ?_)
    go_simp
    with_reducible refine ⟨.bool false, ?_, hK _ ?_⟩
    · exact same_sym (HIS2.out W.drew hRW.out)
    clear hK K
    iterate 11 (with_reducible refine wpStill_step (fun K hK => ?_); go_simp; with_reducible refine hK _ ?_; clear hK K)
    with_reducible refine wpStill_nil ?_
    show Exit.then _ _ _ _ W.drew
    go_wp2_with fail
    (with_reducible refine (val_badS x _ (H2.out.sys.keep0 ((by repeat (first | with_reducible exact Mod.refl _ _ | with_reducible assumption | with_reducible refine Mod.alloc ?_ _ | with_reducible refine Mod.drew ?_ | with_reducible refine Mod.drewN ?_ _ | with_reducible refine Mod.setCell ?_ (by first | exact .inl rfl | (left; (try unfold from_); show _ ≤ _; first | omega | (simp; done) | (simp; omega)) | (right; first | omega | (simp; done) | (simp; omega))) _ | with_reducible refine Mod.call0 ?_ (by with_reducible assumption) | with_reducible refine Mod.call ?_ (by with_reducible assumption) (by first | (rintro _ rfl; first | exact .inl rfl | (right; (first | omega | (simp; done) | (simp; omega)))) | (rintro _ (rfl | rfl) <;> (right; (first | omega | (simp; done) | (simp; omega))))))) : Mod nowhere w2 _)) HG.out HK1.out).mono ?_)
    rintro e w10 ⟨rfl, hm10⟩
    have y10 : Mod nowhere w2 w10 := (by repeat (first | with_reducible exact Mod.refl _ _ | with_reducible assumption | with_reducible refine Mod.alloc ?_ _ | with_reducible refine Mod.drew ?_ | with_reducible refine Mod.drewN ?_ _ | with_reducible refine Mod.setCell ?_ (by first | exact .inl rfl | (left; (try unfold from_); show _ ≤ _; first | omega | (simp; done) | (simp; omega)) | (right; first | omega | (simp; done) | (simp; omega))) _ | with_reducible refine Mod.call0 ?_ (by with_reducible assumption) | with_reducible refine Mod.call ?_ (by with_reducible assumption) (by first | (rintro _ rfl; first | exact .inl rfl | (right; (first | omega | (simp; done) | (simp; omega)))) | (rintro _ (rfl | rfl) <;> (right; (first | omega | (simp; done) | (simp; omega)))))))
    have hb10 := hb.keep0 y10
    have c_hb10 := hb10.cell; have f_hb10 := hb10.frozen; have l_hb10 := hb10.lt
    go_wp2_with (go_at_call 11; (with_reducible refine (HIS1.out _ (H2.out.ref.keep0 ((by repeat (first | with_reducible exact Mod.refl _ _ | with_reducible assumption | with_reducible refine Mod.alloc ?_ _ | with_reducible refine Mod.drew ?_ | with_reducible refine Mod.drewN ?_ _ | with_reducible refine Mod.setCell ?_ (by first | exact .inl rfl | (left; (try unfold from_); show _ ≤ _; first | omega | (simp; done) | (simp; omega)) | (right; first | omega | (simp; done) | (simp; omega))) _ | with_reducible refine Mod.call0 ?_ (by with_reducible assumption) | with_reducible refine Mod.call ?_ (by with_reducible assumption) (by first | (rintro _ rfl; first | exact .inl rfl | (right; (first | omega | (simp; done) | (simp; omega)))) | (rintro _ (rfl | rfl) <;> (right; (first | omega | (simp; done) | (simp; omega))))))) : Mod nowhere w2 _))).mono ?_); rintro e w' ⟨rfl, rfl⟩)
    have yE : Mod nowhere w2 w10 := y10
    go_ret
    exact ⟨rfl, HH.out.duo' (H2.out.keep0 yE), m2.call0 yE⟩
set_option maxRecDepth 100000 in
set_option maxHeartbeats 8000000 in
theorem looks_out1 (w : World) (h : Sync w B K r N cs v nd M q st g rl ra m ca nm n) (x : Int) (hx64 : I64 x) (hx : x < 0 ∨ (K.k : Int) ≤ x) (hk : IsK cs N x 1) :
    Calls Try.prog 18 #[.pointer (some ⟨K.c, 0, none⟩), .pointer (some ⟨K.t, 0, none⟩), .pointer (some ⟨g, 0, none⟩), .int .i64 x] w fun e w' => e = .returned (.bool true) ∧ Sync w' B K r N cs v nd M q st g rl ra m ca nm n ∧ Mod (Wd K M q) w w' := by
  obtain ⟨j, rfl⟩ : ∃ j : Nat, x = j := ⟨x.toNat, by have := hk.1; omega⟩
  have HH := hide h
  have hN : N ≤ 4096 := by have := h.duo.sys.fit; have := h.duo.sys.m4; omega
  have k8 := h.duo.sys.k8
  have HX := hide hx64
  have hkd := h.good.kinds
  have HKD := hide hkd
  have HG := hide h.good
  have hjN : j < N := by have := hk.2.1; omega
  have hk2 : ¬ IsK cs N (j : Int) 2 := fun e => by have := hk.2.2.symm.trans e.2.2; cases this
  obtain ⟨x0, hrec⟩ := h.good.ver hjN hk.2.2
  have HREC := hide hrec
  have HIS2 := hide (fun (W : World) (hR : Ref W g rl ra m ca K.k n N cs v nm st) => show Calls Try.prog 11 #[.pointer (some ⟨g, 0, none⟩), .int .i64 (j : Int), .int .i64 2] W fun e w' => e = .returned (.bool false) ∧ W = w' from (ris_same (j : Int) 2 g rl N n _ _ cs W hR.lst HKD.out hN HX.out).mono (by rintro e w' ⟨rfl, hm⟩; exact ⟨by rw [show decide (0 ≤ (j : Int) ∧ (j : Int) < (N : Int) ∧ kindOf cs ((j : Int)).toNat = 2) = false from decide_eq_false hk2], hm⟩))
  have HIS1 := hide (fun (W : World) (hR : Ref W g rl ra m ca K.k n N cs v nm st) => show Calls Try.prog 11 #[.pointer (some ⟨g, 0, none⟩), .int .i64 (j : Int), .int .i64 1] W fun e w' => e = .returned (.bool true) ∧ W = w' from (ris_same (j : Int) 1 g rl N n _ _ cs W hR.lst HKD.out hN HX.out).mono (by rintro e w' ⟨rfl, hm⟩; exact ⟨by rw [show decide (0 ≤ (j : Int) ∧ (j : Int) < (N : Int) ∧ kindOf cs ((j : Int)).toNat = 1) = true from decide_eq_true hk], hm⟩))
  clear h hkd hx64 hrec hk
  have HK2 := hide hk2
  clear hk2
  go_enter Try.func18, Try.ntmps18
  go_wp2_with fail
  (with_reducible refine (cload_out K.c K.a K.rc K.k K.ws (j : Int) _ HH.out.duo.sys.cf.cls hx).mono ?_)
  rintro e w1 ⟨rfl, hm1⟩
  have h1 := HH.out.duo.keep0 hm1
  go_wp2_with fail
  (with_reducible refine (cur_out K.c K.a K.rc K.k K.ws _ (j : Int) _ h1.sys.cf.cls hx).mono ?_)
  rintro e w2 ⟨rfl, hm2⟩
  have h2 := h1.keep0 hm2
  have m2 : Mod (Wd K M q) w w2 := (hm1.mono fun _ x => x.elim).call0 hm2
  clear h1 hm1 hm2
  have H2 := hide h2
  obtain ⟨cap, hb, hc, hne⟩ := h2.ref.open_
  have hlt := h2.ref.lt
  have hj' : (j : Int) < (N : Int) := by omega
  have d0 := (hc (j * 9) (by omega)).trans HREC.out.h0
  have d1 := (hc (j * 9 + 1) (by omega)).trans HREC.out.h1
  have d2 := (hc (j * 9 + 2) (by omega)).trans HREC.out.h2
  have d3 := (hc (j * 9 + 3) (by omega)).trans HREC.out.h3
  have d4 := (hc (j * 9 + 4) (by omega)).trans HREC.out.h4
  have d5 := (hc (j * 9 + 5) (by omega)).trans HREC.out.h5
  have d6 := (hc (j * 9 + 6) (by omega)).trans HREC.out.h6
  have d7 := (hc (j * 9 + 7) (by omega)).trans HREC.out.h7
  have d8 := (hc (j * 9 + 8) (by omega)).trans HREC.out.h8
  clear hc h2
  have c_hb := hb.cell; have f_hb := hb.frozen; have l_hb := hb.lt
  go_wp2_with fail
  all_goals
    (with_reducible refine (loc_badS (j : Int) _ (H2.out.sys.keep0 ((by repeat (first | with_reducible exact Mod.refl _ _ | with_reducible assumption | with_reducible refine Mod.alloc ?_ _ | with_reducible refine Mod.drew ?_ | with_reducible refine Mod.drewN ?_ _ | with_reducible refine Mod.setCell ?_ (by first | exact .inl rfl | (left; (try unfold from_); show _ ≤ _; first | omega | (simp; done) | (simp; omega)) | (right; first | omega | (simp; done) | (simp; omega))) _ | with_reducible refine Mod.call0 ?_ (by with_reducible assumption) | with_reducible refine Mod.call ?_ (by with_reducible assumption) (by first | (rintro _ rfl; first | exact .inl rfl | (right; (first | omega | (simp; done) | (simp; omega)))) | (rintro _ (rfl | rfl) <;> (right; (first | omega | (simp; done) | (simp; omega))))))) : Mod nowhere w2 _)) HG.out HK2.out).mono ?_)
    rintro e w3 ⟨rfl, hm3⟩
    have y3 : Mod nowhere w2 w3 := (by repeat (first | with_reducible exact Mod.refl _ _ | with_reducible assumption | with_reducible refine Mod.alloc ?_ _ | with_reducible refine Mod.drew ?_ | with_reducible refine Mod.drewN ?_ _ | with_reducible refine Mod.setCell ?_ (by first | exact .inl rfl | (left; (try unfold from_); show _ ≤ _; first | omega | (simp; done) | (simp; omega)) | (right; first | omega | (simp; done) | (simp; omega))) _ | with_reducible refine Mod.call0 ?_ (by with_reducible assumption) | with_reducible refine Mod.call ?_ (by with_reducible assumption) (by first | (rintro _ rfl; first | exact .inl rfl | (right; (first | omega | (simp; done) | (simp; omega)))) | (rintro _ (rfl | rfl) <;> (right; (first | omega | (simp; done) | (simp; omega)))))))
    have z3 := y3.size
    go_wp2_with fail
    obtain ⟨W, hW⟩ : ∃ W, W = w3.alloc (.cells #[.int .i64 0, .int .i64 0, .int .i64 0, .int .i64 0, .int .i64 0, .int .i64 0, .int .i64 0, .int .i64 0, .int .i64 0] 45) := ⟨_, rfl⟩
    have yW : Mod nowhere w2 W := by rw [hW]; exact y3.alloc _
    have hl : Blk W w3.heap.size 45 #[.int .i64 0, .int .i64 0, .int .i64 0, .int .i64 0, .int .i64 0, .int .i64 0, .int .i64 0, .int .i64 0, .int .i64 0] := by rw [hW]; exact Blk.new _ _ _
    have hbW := hb.keep0 yW
    rw [← hW]
    clear hW
    have c_hl := hl.cell; have f_hl := hl.frozen; have l_hl := hl.lt; have c_hbW := hbW.cell; have f_hbW := hbW.frozen; have l_hbW := hbW.lt
    have hRW := hide (H2.out.ref.keep0 (yW.drew : Mod nowhere w2 W.drew))
    refine wp_region_still_lit (by kernel_rfl) (by kernel_rfl) ?_
    change wpStill _ _ W.drew _ _ _
    iterate 2 (with_reducible refine wpStill_step (fun K hK => ?_); go_simp; with_reducible refine hK _ ?_; clear hK K)
    with_reducible refine wpStill_step (fun K hK => ?_)
    go_simp
    with_reducible refine ⟨.bool false, ?_, hK _ ?_⟩
    · exact same_sym (HIS2.out W.drew hRW.out)
    clear hK K
    iterate 1 (with_reducible refine wpStill_step (fun K hK => ?_); go_simp; with_reducible refine hK _ ?_; clear hK K)
    iterate 13 (with_reducible refine wpStill_skip_ ?_ ?_; (kernel_rfl); intro K hK; go_simp; with_reducible refine hK _ ?_; clear hK K)
    iterate 4 (with_reducible refine wpStill_step (fun K hK => ?_); go_simp; with_reducible refine hK _ ?_; clear hK K)
    with_reducible refine wpStill_step (fun K hK => ?_)
    go_simp
    with_reducible refine ⟨.bool false, ?_, hK _ ?_⟩
    · exact same_sym (HIS2.out W.drew hRW.out)
    clear hK K
    iterate 11 (with_reducible refine wpStill_step (fun K hK => ?_); go_simp; with_reducible refine hK _ ?_; clear hK K)
    with_reducible refine wpStill_nil ?_
    show Exit.then _ _ _ _ W.drew
    go_wp2_with fail
    (with_reducible refine (sys_val _ (H2.out.sys.keep0 ((by repeat (first | with_reducible exact Mod.refl _ _ | with_reducible assumption | with_reducible refine Mod.alloc ?_ _ | with_reducible refine Mod.drew ?_ | with_reducible refine Mod.drewN ?_ _ | with_reducible refine Mod.setCell ?_ (by first | exact .inl rfl | (left; (try unfold from_); show _ ≤ _; first | omega | (simp; done) | (simp; omega)) | (right; first | omega | (simp; done) | (simp; omega))) _ | with_reducible refine Mod.call0 ?_ (by with_reducible assumption) | with_reducible refine Mod.call ?_ (by with_reducible assumption) (by first | (rintro _ rfl; first | exact .inl rfl | (right; (first | omega | (simp; done) | (simp; omega)))) | (rintro _ (rfl | rfl) <;> (right; (first | omega | (simp; done) | (simp; omega))))))) : Mod nowhere w2 _)) (j : Int) j x0 rfl hjN HREC.out).mono ?_)
    rintro e w10 ⟨rfl, hm10⟩
    have y10 : Mod nowhere w2 w10 := (by repeat (first | with_reducible exact Mod.refl _ _ | with_reducible assumption | with_reducible refine Mod.alloc ?_ _ | with_reducible refine Mod.drew ?_ | with_reducible refine Mod.drewN ?_ _ | with_reducible refine Mod.setCell ?_ (by first | exact .inl rfl | (left; (try unfold from_); show _ ≤ _; first | omega | (simp; done) | (simp; omega)) | (right; first | omega | (simp; done) | (simp; omega))) _ | with_reducible refine Mod.call0 ?_ (by with_reducible assumption) | with_reducible refine Mod.call ?_ (by with_reducible assumption) (by first | (rintro _ rfl; first | exact .inl rfl | (right; (first | omega | (simp; done) | (simp; omega)))) | (rintro _ (rfl | rfl) <;> (right; (first | omega | (simp; done) | (simp; omega)))))))
    have hb10 := hb.keep0 y10
    have dv := (y10.cell (j * 9 + 1) hlt.2.1 id).trans d1
    have lr10 : rl < w10.heap.size := Nat.lt_of_lt_of_le hlt.2.1 y10.size
    have c_hb10 := hb10.cell; have f_hb10 := hb10.frozen; have l_hb10 := hb10.lt
    go_wp2_with (go_at_call 11; (with_reducible refine (HIS1.out _ (H2.out.ref.keep0 ((by repeat (first | with_reducible exact Mod.refl _ _ | with_reducible assumption | with_reducible refine Mod.alloc ?_ _ | with_reducible refine Mod.drew ?_ | with_reducible refine Mod.drewN ?_ _ | with_reducible refine Mod.setCell ?_ (by first | exact .inl rfl | (left; (try unfold from_); show _ ≤ _; first | omega | (simp; done) | (simp; omega)) | (right; first | omega | (simp; done) | (simp; omega))) _ | with_reducible refine Mod.call0 ?_ (by with_reducible assumption) | with_reducible refine Mod.call ?_ (by with_reducible assumption) (by first | (rintro _ rfl; first | exact .inl rfl | (right; (first | omega | (simp; done) | (simp; omega)))) | (rintro _ (rfl | rfl) <;> (right; (first | omega | (simp; done) | (simp; omega))))))) : Mod nowhere w2 _))).mono ?_); rintro e w' ⟨rfl, rfl⟩)
    have yE : Mod nowhere w2 w10 := y10
    go_ret
    exact ⟨rfl, HH.out.duo' (H2.out.keep0 yE), m2.call0 yE⟩
set_option maxRecDepth 100000 in
set_option maxHeartbeats 8000000 in
theorem looks_out2 (w : World) (h : Sync w B K r N cs v nd M q st g rl ra m ca nm n) (x : Int) (hx64 : I64 x) (hx : x < 0 ∨ (K.k : Int) ≤ x) (hk : IsK cs N x 2) :
    Calls Try.prog 18 #[.pointer (some ⟨K.c, 0, none⟩), .pointer (some ⟨K.t, 0, none⟩), .pointer (some ⟨g, 0, none⟩), .int .i64 x] w fun e w' => e = .returned (.bool true) ∧ Sync w' B K r N cs v nd M q st g rl ra m ca nm n ∧ Mod (Wd K M q) w w' := by
  obtain ⟨j, rfl⟩ : ∃ j : Nat, x = j := ⟨x.toNat, by have := hk.1; omega⟩
  have HH := hide h
  have hN : N ≤ 4096 := by have := h.duo.sys.fit; have := h.duo.sys.m4; omega
  have k8 := h.duo.sys.k8
  have HX := hide hx64
  have hkd := h.good.kinds
  have HKD := hide hkd
  have HG := hide h.good
  have hjN : j < N := by have := hk.2.1; omega
  have hk1 : ¬ IsK cs N (j : Int) 1 := fun e => by have := hk.2.2.symm.trans e.2.2; cases this
  obtain ⟨own0, a0, b0, x0, y0, -, la, lb, hrec, -, -⟩ := h.good.loc hjN hk.2.2
  have HREC := hide hrec
  have HIS2 := hide (fun (W : World) (hR : Ref W g rl ra m ca K.k n N cs v nm st) => show Calls Try.prog 11 #[.pointer (some ⟨g, 0, none⟩), .int .i64 (j : Int), .int .i64 2] W fun e w' => e = .returned (.bool true) ∧ W = w' from (ris_same (j : Int) 2 g rl N n _ _ cs W hR.lst HKD.out hN HX.out).mono (by rintro e w' ⟨rfl, hm⟩; exact ⟨by rw [show decide (0 ≤ (j : Int) ∧ (j : Int) < (N : Int) ∧ kindOf cs ((j : Int)).toNat = 2) = true from decide_eq_true hk], hm⟩))
  have HIS1 := hide (fun (W : World) (hR : Ref W g rl ra m ca K.k n N cs v nm st) => show Calls Try.prog 11 #[.pointer (some ⟨g, 0, none⟩), .int .i64 (j : Int), .int .i64 1] W fun e w' => e = .returned (.bool false) ∧ W = w' from (ris_same (j : Int) 1 g rl N n _ _ cs W hR.lst HKD.out hN HX.out).mono (by rintro e w' ⟨rfl, hm⟩; exact ⟨by rw [show decide (0 ≤ (j : Int) ∧ (j : Int) < (N : Int) ∧ kindOf cs ((j : Int)).toNat = 1) = false from decide_eq_false hk1], hm⟩))
  clear h hkd hx64 hrec hk
  have HK1 := hide hk1
  clear hk1
  go_enter Try.func18, Try.ntmps18
  go_wp2_with fail
  (with_reducible refine (cload_out K.c K.a K.rc K.k K.ws (j : Int) _ HH.out.duo.sys.cf.cls hx).mono ?_)
  rintro e w1 ⟨rfl, hm1⟩
  have h1 := HH.out.duo.keep0 hm1
  go_wp2_with fail
  (with_reducible refine (cur_out K.c K.a K.rc K.k K.ws _ (j : Int) _ h1.sys.cf.cls hx).mono ?_)
  rintro e w2 ⟨rfl, hm2⟩
  have h2 := h1.keep0 hm2
  have m2 : Mod (Wd K M q) w w2 := (hm1.mono fun _ x => x.elim).call0 hm2
  clear h1 hm1 hm2
  have H2 := hide h2
  obtain ⟨cap, hb, hc, hne⟩ := h2.ref.open_
  have hlt := h2.ref.lt
  have hj' : (j : Int) < (N : Int) := by omega
  have d0 := (hc (j * 9) (by omega)).trans HREC.out.h0
  have d1 := (hc (j * 9 + 1) (by omega)).trans HREC.out.h1
  have d2 := (hc (j * 9 + 2) (by omega)).trans HREC.out.h2
  have d3 := (hc (j * 9 + 3) (by omega)).trans HREC.out.h3
  have d4 := (hc (j * 9 + 4) (by omega)).trans HREC.out.h4
  have d5 := (hc (j * 9 + 5) (by omega)).trans HREC.out.h5
  have d6 := (hc (j * 9 + 6) (by omega)).trans HREC.out.h6
  have d7 := (hc (j * 9 + 7) (by omega)).trans HREC.out.h7
  have d8 := (hc (j * 9 + 8) (by omega)).trans HREC.out.h8
  clear hc h2
  have c_hb := hb.cell; have f_hb := hb.frozen; have l_hb := hb.lt
  go_wp2_with fail
  all_goals
    (with_reducible refine (sys_loc _ (H2.out.sys.keep0 ((by repeat (first | with_reducible exact Mod.refl _ _ | with_reducible assumption | with_reducible refine Mod.alloc ?_ _ | with_reducible refine Mod.drew ?_ | with_reducible refine Mod.drewN ?_ _ | with_reducible refine Mod.setCell ?_ (by first | exact .inl rfl | (left; (try unfold from_); show _ ≤ _; first | omega | (simp; done) | (simp; omega)) | (right; first | omega | (simp; done) | (simp; omega))) _ | with_reducible refine Mod.call0 ?_ (by with_reducible assumption) | with_reducible refine Mod.call ?_ (by with_reducible assumption) (by first | (rintro _ rfl; first | exact .inl rfl | (right; (first | omega | (simp; done) | (simp; omega)))) | (rintro _ (rfl | rfl) <;> (right; (first | omega | (simp; done) | (simp; omega))))))) : Mod nowhere w2 _)) (j : Int) j own0 (a0 : Int) (b0 : Int) rfl hjN HREC.out).mono ?_)
    rintro e w3 ⟨rfl, hm3⟩
    have y3 : Mod nowhere w2 w3 := (by repeat (first | with_reducible exact Mod.refl _ _ | with_reducible assumption | with_reducible refine Mod.alloc ?_ _ | with_reducible refine Mod.drew ?_ | with_reducible refine Mod.drewN ?_ _ | with_reducible refine Mod.setCell ?_ (by first | exact .inl rfl | (left; (try unfold from_); show _ ≤ _; first | omega | (simp; done) | (simp; omega)) | (right; first | omega | (simp; done) | (simp; omega))) _ | with_reducible refine Mod.call0 ?_ (by with_reducible assumption) | with_reducible refine Mod.call ?_ (by with_reducible assumption) (by first | (rintro _ rfl; first | exact .inl rfl | (right; (first | omega | (simp; done) | (simp; omega)))) | (rintro _ (rfl | rfl) <;> (right; (first | omega | (simp; done) | (simp; omega)))))))
    have z3 := y3.size
    go_wp2_with fail
    obtain ⟨W, hW⟩ : ∃ W, W = w3.alloc (.cells #[.int .i64 2, .int .i64 0, .int .i64 own0, .int .i64 (a0 : Int), .int .i64 (b0 : Int), .int .i64 0, .int .i64 0, .int .i64 0, .int .i64 0] 45) := ⟨_, rfl⟩
    have yW : Mod nowhere w2 W := by rw [hW]; exact y3.alloc _
    have hl : Blk W w3.heap.size 45 #[.int .i64 2, .int .i64 0, .int .i64 own0, .int .i64 (a0 : Int), .int .i64 (b0 : Int), .int .i64 0, .int .i64 0, .int .i64 0, .int .i64 0] := by rw [hW]; exact Blk.new _ _ _
    have hbW := hb.keep0 yW
    have hcW : ∀ z, W.cell? ⟨rl, z, none⟩ = w2.cell? ⟨rl, z, none⟩ := fun z => yW.cell z hlt.2.1 id
    rw [← hW]
    clear hW
    rw [← hcW] at d0
    rw [← hcW] at d1
    rw [← hcW] at d2
    rw [← hcW] at d3
    rw [← hcW] at d4
    rw [← hcW] at d5
    rw [← hcW] at d6
    rw [← hcW] at d7
    rw [← hcW] at d8
    have lrW : rl < W.heap.size := Nat.lt_of_lt_of_le hlt.2.1 yW.size
    have c_hl := hl.cell; have f_hl := hl.frozen; have l_hl := hl.lt; have c_hbW := hbW.cell; have f_hbW := hbW.frozen; have l_hbW := hbW.lt
    have hRW := hide (H2.out.ref.keep0 (yW.drew : Mod nowhere w2 W.drew))
    refine wp_region_still_lit (by kernel_rfl) (by kernel_rfl) ?_
    change wpStill _ _ W.drew _ _ _
    iterate 2 (with_reducible refine wpStill_step (fun K hK => ?_); go_simp; with_reducible refine hK _ ?_; clear hK K)
    with_reducible refine wpStill_step (fun K hK => ?_)
    go_simp
    with_reducible refine ⟨.bool true, ?_, hK _ ?_⟩
    · exact same_sym (HIS2.out W.drew hRW.out)
    clear hK K
    iterate 18 (with_reducible refine wpStill_step (fun K hK => ?_); go_simp; with_reducible refine hK _ ?_; clear hK K)
    with_reducible refine wpStill_step (fun K hK => ?_)
    go_simp
    with_reducible refine ⟨.bool true, ?_, hK _ ?_⟩
    · exact same_sym (HIS2.out W.drew hRW.out)
    clear hK K
    iterate 2 (with_reducible refine wpStill_step (fun K hK => ?_); go_simp; with_reducible refine hK _ ?_; clear hK K)
    iterate 7 (with_reducible refine wpStill_skip_ ?_ ?_; (kernel_rfl); intro K hK; go_simp; with_reducible refine hK _ ?_; clear hK K)
    iterate 2 (with_reducible refine wpStill_step (fun K hK => ?_); go_simp; with_reducible refine hK _ ?_; clear hK K)
    with_reducible refine wpStill_nil ?_
    show Exit.then _ _ _ _ W.drew
    go_wp2_with fail
    (with_reducible refine (val_badS (j : Int) _ (H2.out.sys.keep0 ((by repeat (first | with_reducible exact Mod.refl _ _ | with_reducible assumption | with_reducible refine Mod.alloc ?_ _ | with_reducible refine Mod.drew ?_ | with_reducible refine Mod.drewN ?_ _ | with_reducible refine Mod.setCell ?_ (by first | exact .inl rfl | (left; (try unfold from_); show _ ≤ _; first | omega | (simp; done) | (simp; omega)) | (right; first | omega | (simp; done) | (simp; omega))) _ | with_reducible refine Mod.call0 ?_ (by with_reducible assumption) | with_reducible refine Mod.call ?_ (by with_reducible assumption) (by first | (rintro _ rfl; first | exact .inl rfl | (right; (first | omega | (simp; done) | (simp; omega)))) | (rintro _ (rfl | rfl) <;> (right; (first | omega | (simp; done) | (simp; omega))))))) : Mod nowhere w2 _)) HG.out HK1.out).mono ?_)
    rintro e w10 ⟨rfl, hm10⟩
    have y10 : Mod nowhere w2 w10 := (by repeat (first | with_reducible exact Mod.refl _ _ | with_reducible assumption | with_reducible refine Mod.alloc ?_ _ | with_reducible refine Mod.drew ?_ | with_reducible refine Mod.drewN ?_ _ | with_reducible refine Mod.setCell ?_ (by first | exact .inl rfl | (left; (try unfold from_); show _ ≤ _; first | omega | (simp; done) | (simp; omega)) | (right; first | omega | (simp; done) | (simp; omega))) _ | with_reducible refine Mod.call0 ?_ (by with_reducible assumption) | with_reducible refine Mod.call ?_ (by with_reducible assumption) (by first | (rintro _ rfl; first | exact .inl rfl | (right; (first | omega | (simp; done) | (simp; omega)))) | (rintro _ (rfl | rfl) <;> (right; (first | omega | (simp; done) | (simp; omega)))))))
    have hb10 := hb.keep0 y10
    have c_hb10 := hb10.cell; have f_hb10 := hb10.frozen; have l_hb10 := hb10.lt
    go_wp2_with (go_at_call 11; (with_reducible refine (HIS1.out _ (H2.out.ref.keep0 ((by repeat (first | with_reducible exact Mod.refl _ _ | with_reducible assumption | with_reducible refine Mod.alloc ?_ _ | with_reducible refine Mod.drew ?_ | with_reducible refine Mod.drewN ?_ _ | with_reducible refine Mod.setCell ?_ (by first | exact .inl rfl | (left; (try unfold from_); show _ ≤ _; first | omega | (simp; done) | (simp; omega)) | (right; first | omega | (simp; done) | (simp; omega))) _ | with_reducible refine Mod.call0 ?_ (by with_reducible assumption) | with_reducible refine Mod.call ?_ (by with_reducible assumption) (by first | (rintro _ rfl; first | exact .inl rfl | (right; (first | omega | (simp; done) | (simp; omega)))) | (rintro _ (rfl | rfl) <;> (right; (first | omega | (simp; done) | (simp; omega))))))) : Mod nowhere w2 _))).mono ?_); rintro e w' ⟨rfl, rfl⟩)
    have yE : Mod nowhere w2 w10 := y10
    go_ret
    exact ⟨rfl, HH.out.duo' (H2.out.keep0 yE), m2.call0 yE⟩
theorem looks_calls (w : World) (h : Sync w B K r N cs v nd M q st g rl ra m ca nm n) (x : Int) (hx64 : I64 x) :
    Calls Try.prog 18 #[.pointer (some ⟨K.c, 0, none⟩), .pointer (some ⟨K.t, 0, none⟩), .pointer (some ⟨g, 0, none⟩), .int .i64 x] w fun e w' => e = .returned (.bool true) ∧ Sync w' B K r N cs v nd M q st g rl ra m ca nm n ∧ Mod (Wd K M q) w w' := by
  by_cases hr : 0 ≤ x ∧ x < (K.k : Int)
  · obtain ⟨i, hx⟩ : ∃ i : Nat, x = i := ⟨x.toNat, by omega⟩
    by_cases h2 : IsK cs N x 2
    · exact looks_in2 w h x hx64 i hx (by omega) h2
    · by_cases h1 : IsK cs N x 1
      · exact looks_in1 w h x hx64 i hx (by omega) h1
      · exact looks_in0 w h x hx64 i hx (by omega) h2 h1
  · by_cases h2 : IsK cs N x 2
    · exact looks_out2 w h x hx64 (by omega) h2
    · by_cases h1 : IsK cs N x 1
      · exact looks_out1 w h x hx64 (by omega) h1
      · exact looks_out0 w h x hx64 (by omega) h2 h1
end
end Go.Proofs.Ytanmibdnnjfpbaa
