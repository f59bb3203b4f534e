/- The law CellsStand, walked. -/
import Derived.Test.YtelammmgcfmlbaaCells11
import Derived.Laws.StructEq
namespace Go.Proofs.Ytelammmgcfmlbaa
open Go.RowKit

theorem ainfo_int : (Try.prog.info? 3).map (fun i => (i.zero, i.size, i.bytes)) = some (some (.int .i64 0), 1, 8) := by kernel_rfl
theorem LocRow.blk {w : World} {H : Nat} {E : TypeId} {size : Nat} {v : Value} {n : Nat} {cs : List Value} (h : LocRow w H E size v n cs) : ∀ b, some b = v.ownBlock → H ≤ b ∧ ∃ cur, Blk w b E cur := by
  intro b hb
  obtain ⟨A, cap, rfl, ho, hA⟩ := h
  rcases hA with ⟨rfl, rfl, rfl⟩ | ⟨q, rfl, hq⟩
  · simp [Value.ownBlock] at hb
  · simp [Value.ownBlock] at hb
    subst hb
    exact ⟨hq, ownsRow_blk ho⟩
theorem LocRow.far {S : Nat → Prop} {w w' : World} {H : Nat} {E : TypeId} {size : Nat} {v : Value} {n : Nat} {cs : List Value} (h : LocRow w H E size v n cs) (hm : Mod S w w') (hS : ∀ b, some b = v.ownBlock → ¬ S b) : LocRow w' H E size v n cs := by
  obtain ⟨A, cap, rfl, ho, hA⟩ := h
  refine ⟨A, cap, rfl, ?_, hA⟩
  rcases hA with ⟨rfl, rfl, rfl⟩ | ⟨q, rfl, hq⟩
  · exact ⟨ho.1, .inl ⟨rfl, rfl⟩⟩
  · exact owns_keep ho hm (hS q rfl)
/-- An append of one thing to a slice that a variable holds. -/
theorem wpList_append_loc {ops : Array Oper} {rest : List Oper} {o : Oper} {a : Act} {Q : Exit → Act → World → Prop} {w : World} (hgd : o.guard = none) (s x : Operand) (t : TypeId)
    (ho : o.op = .call { callee := .builtin .append, args := #[s, x], argTypes := #[t, t] }) (E : TypeId) (i : TypeInfo) (z : Value) (ht : Try.prog.underlying t = some (.slice E)) (hi : Try.prog.info? E = some i) (hz : i.zero = some z)
    (hsize : i.size = 1) (hby : i.bytes = 8) (hzs : z.cells.size = 1) (H : Nat) (v : Value) (n : Nat) (xs : List Value) (hs : a.eval s = v) (hown : LocRow w H E 1 v n xs) (g : Nat) (u : Value) (hx : a.eval x = .slice (some ⟨g, 0, none⟩) 1 1)
    (hb : Blk w g E #[u]) (hu : u.oneCell' = true) (hn : n ≤ 100000) (hH : H ≤ w.heap.size)
    (h : ∀ q cap w', LocRow w' H E 1 (.slice (some ⟨q, 0, none⟩) (n + 1) cap) (n + 1) (xs ++ [u]) → Mod (fun b => some b = v.ownBlock) w w' → (some q = v.ownBlock ∨ w.heap.size ≤ q) → H ≤ q → q < w'.heap.size →
      wpList Try.prog ops Q rest (a.put o.dst (.slice (some ⟨q, 0, none⟩) (n + 1) cap)) w') : wpList Try.prog ops Q (o :: rest) a w := by
  obtain ⟨A, cap, rfl, hrow, hA⟩ := hown
  refine wpList_append_lies _ hgd s x t ho 0 E i z 1 8 ht hi hz hsize hby hzs (by omega) _ n xs hs hrow ⟨g, 0, none⟩ 1 1 [u] hx rfl (World.news_of_block (B := g) (cs := #[u]) (t := E) (fr := (0, 0)) hb) (by simp [hu]) (by omega) (by unfold maxLen; omega) (by omega) (Nat.zero_le _) w.heap.size rfl ?_
  intro q cap1 w' hown hgrow hat hlt
  have hq : (some q = (Value.slice A n cap).ownBlock ∨ w.heap.size ≤ q) := by
    rcases hat with hh | hh
    · exact .inl hh.symm
    · exact .inr (by omega)
  have hH' : H ≤ q := by
    rcases hq with hh | hh
    · rcases hA with ⟨rfl, rfl, rfl⟩ | ⟨q', rfl, hq'⟩
      · simp [Value.ownBlock] at hh
      · simp [Value.ownBlock] at hh; omega
    · omega
  exact h q cap1 w' ⟨_, _, rfl, hown, .inr ⟨q, rfl, hH'⟩⟩ (Mod.of_grown hgrow) hq hH' hlt
theorem LocRow.form {w : World} {H : Nat} {E : TypeId} {v : Value} {n : Nat} {cs : List Value} (h : LocRow w H E 1 v n cs) (hn : 0 < n) : ∃ q cap, v = .slice (some ⟨q, 0, none⟩) n cap ∧ H ≤ q ∧ q < w.heap.size ∧ ∀ i u, cs[i]? = some u → w.cell? ⟨q, i, none⟩ = some u := by
  obtain ⟨A, cap, rfl, ho, hA⟩ := h
  rcases hA with ⟨rfl, rfl, rfl⟩ | ⟨q, rfl, hq⟩
  · omega
  · obtain ⟨cur, hc⟩ := ownsRow_blk ho
    refine ⟨q, cap, rfl, hq, hc.lt, fun i u hu => ?_⟩
    have hlt := (List.getElem?_eq_some_iff.1 hu).1
    rw [ho.cellAt i (by rw [← ho.1]; exact hlt)]
    exact hu
def atv (n k : Nat) : List Value := (List.range k).map fun (i : Nat) => .int .i64 (2 * (n : Int) + 1 + 2 * (i : Int))
def lcv (n k : Nat) : List Value := (List.range k).map fun (i : Nat) => .int .i64 (2 * (n : Int) + 2 + 2 * (i : Int))
theorem atv_succ (n k : Nat) : atv n (k + 1) = atv n k ++ [.int .i64 (2 * (n : Int) + 1 + 2 * (k : Int))] := by unfold atv; rw [List.range_succ, List.map_append]; rfl
theorem lcv_succ (n k : Nat) : lcv n (k + 1) = lcv n k ++ [.int .i64 (2 * (n : Int) + 2 + 2 * (k : Int))] := by unfold lcv; rw [List.range_succ, List.map_append]; rfl
theorem atv_at (n k i : Nat) (h : i < k) : (atv n k)[i]? = some (.int .i64 (2 * (n : Int) + 1 + 2 * (i : Int))) := by unfold atv; rw [List.getElem?_map, List.getElem?_range h]; rfl
theorem lcv_at (n k i : Nat) (h : i < k) : (lcv n k)[i]? = some (.int .i64 (2 * (n : Int) + 2 + 2 * (i : Int))) := by unfold lcv; rw [List.getElem?_map, List.getElem?_range h]; rfl
def oldv (n : Nat) : Nat → Int
  | 0 => 0
  | i + 1 => 2 * (n : Int) + 1 + 2 * (i : Int)
def StO (l3 : List Int) (n k : Nat) (cs : List Value) : Prop := ∀ i x, i < k → l3[i]? = some x →
  Rec9 cs (2 * n + 1 + 2 * i) 1 x 0 0 0 0 0 0 0 ∧ Rec9 cs (2 * n + 2 + 2 * i) 2 0 (2 * (n : Int)) (oldv n i) (2 * (n : Int) + 1 + 2 * (i : Int)) 0 0 0 0
theorem StO.more {l3 : List Int} {n k : Nat} {cs cs' : List Value} (h : StO l3 n k cs) : StO l3 n k (cs ++ cs') := fun i x hi hx => ⟨(h i x hi hx).1.more, (h i x hi hx).2.more⟩
theorem StO.snoc {l3 : List Int} {n k : Nat} {cs : List Value} {x : Int} (h : StO l3 n k cs) (hx : l3[k]? = some x) (h1 : Rec9 cs (2 * n + 1 + 2 * k) 1 x 0 0 0 0 0 0 0) (h2 : Rec9 cs (2 * n + 2 + 2 * k) 2 0 (2 * (n : Int)) (oldv n k) (2 * (n : Int) + 1 + 2 * (k : Int)) 0 0 0 0) : StO l3 n (k + 1) cs := by
  intro i y hi hy
  by_cases hik : i < k
  · exact h i y hik hy
  · obtain rfl : i = k := by omega
    rw [hx] at hy
    obtain rfl := Option.some.inj hy
    exact ⟨h1, h2⟩
/-- The version that the next locator takes for its old one. -/
theorem StO.old {l l3 : List Int} {n k : Nat} {cs : List Value} (h : StO l3 n k cs) (hF : First l n cs) (hl : l.length = n) (h1 : 1 ≤ n) (hk : k ≤ l3.length) : ∃ (o : Nat) (p : Int), oldv n k = (o : Int) ∧ o < 2 * n + 1 + 2 * k ∧ Rec9 cs o 1 p 0 0 0 0 0 0 0 := by
  cases k with
  | zero => exact ⟨0, _, rfl, by omega, First.ver hF (i := 0) (by omega) (List.getElem?_eq_getElem (by omega))⟩
  | succ k => exact ⟨2 * n + 1 + 2 * k, _, by show (2 * (n : Int) + 1 + 2 * (k : Int)) = _; omega, by omega, (h k _ (by omega) (List.getElem?_eq_getElem (by omega))).1⟩

set_option maxRecDepth 100000 in
set_option maxHeartbeats 8000000 in
theorem law_cellsStand (A : Option Addr) (n c : Nat) (l : List Int) (A3 : Option Addr) (n3 c3 : Nat) (l3 : List Int) (to : Int) (w : World) (hl : l.length = n) (hr : Reads w w.heap.size 1 A n (l.map (Value.int .i64))) (hl3 : l3.length = n3) (hr3 : Reads w w.heap.size 1 A3 n3 (l3.map (Value.int .i64))) :
    Calls Try.prog 7 #[.slice A n c, .slice A3 n3 c3, .int .i64 to] w
     fun en w' => en = .returned (.bool true) ∧ Mod nowhere w w' := by
  by_cases g0 : n < 1 ∨ 8 < n ∨ 10 < n3
  · go_enter Try.func7, Try.ntmps7
    go_wp2_with fail
    (with_reducible refine (alive4_calls _).mono ?_)
    rintro e w1 ⟨rfl, hbw1⟩
    have hzw1 := hbw1.size
    (try simp at hzw1)
    skip
    skip
    go_wp2
    all_goals first | (exfalso; omega) | skip
    all_goals go_ret
    all_goals exact ⟨rfl, (by repeat (first | with_reducible exact Mod.refl _ _ | with_reducible assumption | with_reducible refine Mod.alloc ?_ _ | with_reducible refine Mod.drew ?_ | with_reducible refine Mod.drewN ?_ _ | with_reducible refine Mod.setCell ?_ (by first | exact .inl rfl | (left; (try unfold from_); show _ ≤ _; first | omega | (simp; done) | (simp; omega)) | (right; first | omega | (simp; done) | (simp; omega))) _ | with_reducible refine Mod.call0 ?_ (by with_reducible assumption) | with_reducible refine Mod.call ?_ (by with_reducible assumption) (by first | (rintro _ rfl; first | exact .inl rfl | (right; (first | omega | (simp; done) | (simp; omega)))) | (rintro _ (rfl | rfl) <;> (right; (first | omega | (simp; done) | (simp; omega)))))))⟩
  have g1 : 1 ≤ n := by omega
  have g2 : n ≤ 8 := by omega
  have g3 : n3 ≤ 10 := by omega
  have HR := hide hr
  have HL := hide hl
  have HR3 := hide hr3
  have HL3 := hide hl3
  clear hr hl hr3 hl3 g0
  have z1 : decide (n < 1) = false := by simp; omega
  have z2 : decide (8 < n) = false := by simp; omega
  have z3 : decide (10 < n3) = false := by simp; omega
  obtain ⟨b, o, rfl, hbl, hcell⟩ := HR.out.form (by omega) (by omega)
  have HC := hide hcell
  clear hcell
  go_enter Try.func7, Try.ntmps7
  go_wp2_with fail
  (with_reducible refine (alive4_calls _).mono ?_)
  rintro e w0 ⟨rfl, hbw0⟩
  have hzw0 := hbw0.size
  (try simp at hzw0)
  skip
  skip
  have y0 : Mod nowhere w w0 := (by repeat (first | with_reducible exact Mod.refl _ _ | with_reducible assumption | with_reducible refine Mod.alloc ?_ _ | with_reducible refine Mod.drew ?_ | with_reducible refine Mod.drewN ?_ _ | with_reducible refine Mod.setCell ?_ (by first | exact .inl rfl | (left; (try unfold from_); show _ ≤ _; first | omega | (simp; done) | (simp; omega)) | (right; first | omega | (simp; done) | (simp; omega))) _ | with_reducible refine Mod.call0 ?_ (by with_reducible assumption) | with_reducible refine Mod.call ?_ (by with_reducible assumption) (by first | (rintro _ rfl; first | exact .inl rfl | (right; (first | omega | (simp; done) | (simp; omega)))) | (rintro _ (rfl | rfl) <;> (right; (first | omega | (simp; done) | (simp; omega)))))))
  go_wp2_with fail
  (with_reducible refine (made4_calls 64 l b o c n _ HL.out g1 g2 (by omega) (by omega) (by have := y0.size; omega) (fun k x hk => (y0.cell (o + k) hbl id).trans (HC.out k (.int .i64 x) (by simp [hk])))).mono ?_)
  rintro e w1 ⟨K, r, cs, rfl, hk, hmo, hS1, hFi, hm1⟩
  have y1 : Mod nowhere w w1 := (by repeat (first | with_reducible exact Mod.refl _ _ | with_reducible assumption | with_reducible refine Mod.alloc ?_ _ | with_reducible refine Mod.drew ?_ | with_reducible refine Mod.drewN ?_ _ | with_reducible refine Mod.setCell ?_ (by first | exact .inl rfl | (left; (try unfold from_); show _ ≤ _; first | omega | (simp; done) | (simp; omega)) | (right; first | omega | (simp; done) | (simp; omega))) _ | with_reducible refine Mod.call0 ?_ (by with_reducible assumption) | with_reducible refine Mod.call ?_ (by with_reducible assumption) (by first | (rintro _ rfl; first | exact .inl rfl | (right; (first | omega | (simp; done) | (simp; omega)))) | (rintro _ (rfl | rfl) <;> (right; (first | omega | (simp; done) | (simp; omega)))))))
  replace hS1 := hS1.mono y0.size
  have F1 := hide hFi
  clear hFi hm1
  go_wp2_with fail
  (with_reducible refine (sys_beg _ hS1 y1.size 0 0 0 0 0 (by omega) (by decide) (by decide) (by decide) (by decide) (by decide)).mono ?_)
  rintro e w2 ⟨r2, d, x2, rfl, hr2, hS2, hm2⟩
  have y2 : Mod nowhere w w2 := y1.call hm2 fun i hi => .inr (hS1.ge hi)
  have F2 := hide (F1.out.more (cs' := [.int .i64 3, .int .i64 0, .int .i64 0, .int .i64 0, .int .i64 0, .int .i64 0, .int .i64 0, .int .i64 0, .int .i64 0]))
  have hMd : updz (fun _ => (none : Option Nat)) ((2 * n : Nat) : Int) (some d) ((2 * n : Nat) : Int) = some d := updz_same _ _ _
  have hst : updz (fun _ => (0 : Int)) ((2 * n : Nat) : Int) 1 ((2 * n : Nat) : Int) = 1 := updz_same _ _ _
  generalize updz (fun _ => (none : Option Nat)) ((2 * n : Nat) : Int) (some d) = M at hS2 hMd
  generalize updz (fun _ => 0) ((2 * n : Nat) : Int) x2 = q at hS2
  generalize updz (fun _ => (0 : Int)) ((2 * n : Nat) : Int) 1 = st at hS2 hst
  generalize cs ++ [.int .i64 3, .int .i64 0, .int .i64 0, .int .i64 0, .int .i64 0, .int .i64 0, .int .i64 0, .int .i64 0, .int .i64 0] = cs2 at hS2 F2
  have HST := hide hst
  have HST2 := hide (show st (2 * (n : Int)) = 1 from by rw [show (2 * (n : Int)) = ((2 * n : Nat) : Int) by omega]; exact hst)
  have HMD := hide hMd
  clear hst hMd hS1 hm2
  have HM2 := hide (show M (2 * (n : Int)) = some d by rw [show (2 * (n : Int)) = ((2 * n : Nat) : Int) by omega]; exact HMD.out)
  obtain ⟨i0, hi, hz0, hz1, hz2⟩ := info_parts ainfo_int
  go_wp2_with fail
  go_loopw [13, 14, 15, 16, 17, 18, 19, 20, 21, 22] (fun s13 s14 s15 _ _ _ _ _ _ _ wx => ∃ (k r N : Nat) (cs : List Value) (v : Nat → Nat), s15 = .int .i64 k ∧ k ≤ n3 ∧ N = 2 * n + 1 + 2 * k ∧ Sys wx w.heap.size K r N cs v (0 + 1) M q st ∧ First l n cs ∧ StO l3 n k cs ∧ LocRow wx w.heap.size 3 1 s13 k (atv n k) ∧ LocRow wx w.heap.size 3 1 s14 k (lcv n k) ∧ (∀ b, some b = s13.ownBlock → some b ≠ s14.ownBlock) ∧ Mod nowhere w wx)
    (fun _ _ s15 _ _ _ _ _ _ _ _ => (300 - (intOf s15)).toNat)
  case atStart => exact ⟨0, r2, _, _, _, rfl, Nat.zero_le _, rfl, hS2, F2.out, fun i x hi => absurd hi (by omega), LocRow.nil _ _ _ _, LocRow.nil _ _ _ _, fun b hb => by simp [Value.ownBlock] at hb, y2⟩
  case round =>
    obtain ⟨k, r, N, cs, v, rfl, hk3, hN, hS, hF, hA, hAt, hLc, hD, hmr⟩ := hrel
    have hsz := hmr.size
    by_cases hlt : k < n3
    · obtain ⟨b3, o3, rfl, hbl3, hcell3⟩ := HR3.out.form (by omega) (by omega)
      obtain ⟨x3, hx3⟩ : ∃ x3, l3[k]? = some x3 := ⟨_, List.getElem?_eq_getElem (show k < l3.length by have := HL3.out; omega)⟩
      have hcd := (hmr.cell (o3 + k) hbl3 id).trans (hcell3 k (.int .i64 x3) (by simp [hx3]))
      have HF := hide hF
      have HA := hide hA
      have HX3 := hide hx3
      have HN := hide hN
      have HAt := hide hAt
      have HLc := hide hLc
      have HD := hide hD
      have hNb : N < 62 := by omega
      clear hx3 hcell3 hF hA hN hAt hLc hD
      go_wp2_with fail
      (with_reducible refine (sys_ver _ hS hmr.size x3 (by omega)).mono ?_)
      rintro e w7 ⟨r7, rfl, hS7, hr7, hm7⟩
      have y7 : Mod nowhere w w7 := hmr.call hm7 fun i hi => .inr (hS.ge hi)
      have At7 := hide (HAt.out.far hm7 fun b hb => (HAt.out.blk b hb).2.elim fun cur hc => hS.notIn hc (by decide) (by decide) (by decide) (by decide) (by decide) (by decide) (by decide))
      have Lc7 := hide (HLc.out.far hm7 fun b hb => (HLc.out.blk b hb).2.elim fun cur hc => hS.notIn hc (by decide) (by decide) (by decide) (by decide) (by decide) (by decide) (by decide))
      have v7 := hide (Rec9.new 1 x3 0 0 0 0 0 0 0 hS.cf.arn.len)
      have F7 := hide (HF.out.more (cs' := [.int .i64 1, .int .i64 x3, .int .i64 0, .int .i64 0, .int .i64 0, .int .i64 0, .int .i64 0, .int .i64 0, .int .i64 0]))
      have A7 := hide (HA.out.more (cs' := [.int .i64 1, .int .i64 x3, .int .i64 0, .int .i64 0, .int .i64 0, .int .i64 0, .int .i64 0, .int .i64 0, .int .i64 0]))
      generalize cs ++ [.int .i64 1, .int .i64 x3, .int .i64 0, .int .i64 0, .int .i64 0, .int .i64 0, .int .i64 0, .int .i64 0, .int .i64 0] = cs7 at hS7 v7 F7 A7
      have hz7 := hm7.size
      obtain ⟨oo, pp, ho1, ho2, ho3⟩ := A7.out.old F7.out HL.out g1 (by have := HL3.out; omega)
      have HO1 := hide ho1
      have HO2 := hide ho2
      clear hS hm7 hcd HAt HLc ho1 ho2
      obtain ⟨j0, hj0⟩ : ∃ j : Nat, (k : Int) % (n : Int) = (j : Int) := ⟨((k : Int) % (n : Int)).toNat, by have := Int.emod_nonneg (k : Int) (show (n : Int) ≠ 0 by omega); omega⟩
      have hjN : j0 < n := by have := Int.emod_lt_of_pos (k : Int) (show (0 : Int) < (n : Int) by omega); omega
      have hold : k = 0 ∨ ∃ kk A cap, k = kk + 1 ∧ u13 = .slice (some ⟨A, 0, none⟩) k cap ∧ A < w7.heap.size ∧ w7.cell? ⟨A, kk, none⟩ = some (.int .i64 (2 * (n : Int) + 1 + 2 * (kk : Int))) := by
        cases k with
        | zero => exact .inl rfl
        | succ kk =>
          right
          obtain ⟨q9, cap, e, _, hl9, hc9⟩ := At7.out.form (by omega)
          exact ⟨kk, q9, cap, rfl, e, hl9, hc9 kk _ (atv_at n (kk + 1) kk (by omega))⟩
      rcases hold with rfl | ⟨kk, qa9, cap9, rfl, rfl, hl9, hc9⟩
      · go_wp2_with fail
        (with_reducible refine (sys_bld _ hS7 y7.size (2 * (n : Int)) 0 (N : Int) pp x3 oo N (by have := HO1.out; simp only [oldv] at this; omega) rfl (by have := HN.out; have := HO2.out; omega) (by omega) ho3 v7.out (by omega) (by omega)).mono ?_)
        rintro e w8 ⟨r8, rfl, hS8, hr8, hm8⟩
        have y8 : Mod nowhere w w8 := y7.call hm8 fun i hi => .inr (hS7.ge hi)
        have At8 := hide (At7.out.far hm8 fun b hb => (At7.out.blk b hb).2.elim fun cur hc => hS7.notIn hc (by decide) (by decide) (by decide) (by decide) (by decide) (by decide) (by decide))
        have Lc8 := hide (Lc7.out.far hm8 fun b hb => (Lc7.out.blk b hb).2.elim fun cur hc => hS7.notIn hc (by decide) (by decide) (by decide) (by decide) (by decide) (by decide) (by decide))
        have v8 := hide (Rec9.new 2 0 (2 * (n : Int)) 0 (N : Int) 0 0 0 0 hS7.cf.arn.len)
        have F8 := hide (F7.out.more (cs' := [.int .i64 2, .int .i64 0, .int .i64 (2 * (n : Int)), .int .i64 0, .int .i64 (N : Int), .int .i64 0, .int .i64 0, .int .i64 0, .int .i64 0]))
        have A8 := hide (A7.out.more (cs' := [.int .i64 2, .int .i64 0, .int .i64 (2 * (n : Int)), .int .i64 0, .int .i64 (N : Int), .int .i64 0, .int .i64 0, .int .i64 0, .int .i64 0]))
        have w78 := hide (v7.out.more (cs' := [.int .i64 2, .int .i64 0, .int .i64 (2 * (n : Int)), .int .i64 0, .int .i64 (N : Int), .int .i64 0, .int .i64 0, .int .i64 0, .int .i64 0]))
        generalize cs7 ++ [.int .i64 2, .int .i64 0, .int .i64 (2 * (n : Int)), .int .i64 0, .int .i64 (N : Int), .int .i64 0, .int .i64 0, .int .i64 0, .int .i64 0] = cs8 at hS8 v8 F8 A8 w78
        have A9 := hide (A8.out.snoc HX3.out (by have := w78.out; rwa [HN.out] at this) (by
          have := v8.out
          rw [show N + 1 = 2 * n + 2 + 2 * 0 by have := HN.out; omega, show (N : Int) = 2 * (n : Int) + 1 + 2 * ((0 : Nat) : Int) by have := HN.out; omega] at this
          exact this))
        clear hS7 hm8 v8 w78 A8 v7 
        have hz8 := y8.size
        go_wp2_with (first
          | (at_builtin; refine wpList_append_loc rfl (.tmp 98) (.tmp 100) _ rfl 3 i0 (.int .i64 0) Try.underlying57 hi hz0 hz1 hz2 rfl w.heap.size u13 (0) (atv n (0)) rfl (At8.out.far (S := nowhere) (by repeat (first | with_reducible exact Mod.refl _ _ | with_reducible assumption | with_reducible refine Mod.alloc ?_ _ | with_reducible refine Mod.drew ?_ | with_reducible refine Mod.drewN ?_ _ | with_reducible refine Mod.setCell ?_ (by first | exact .inl rfl | (left; (try unfold from_); show _ ≤ _; first | omega | (simp; done) | (simp; omega)) | (right; first | omega | (simp; done) | (simp; omega))) _ | with_reducible refine Mod.call0 ?_ (by with_reducible assumption) | with_reducible refine Mod.call ?_ (by with_reducible assumption) (by first | (rintro _ rfl; first | exact .inl rfl | (right; (first | omega | (simp; done) | (simp; omega)))) | (rintro _ (rfl | rfl) <;> (right; (first | omega | (simp; done) | (simp; omega))))))) (fun _ _ h => h)) w8.heap.size (.int .i64 (N : Int)) rfl (by repeat (first | with_reducible assumption | with_reducible apply Blk.new | with_reducible exact Blk.newAt (by first | rfl | (simp; done) | (simp; omega)) | with_reducible apply Blk.alloc | with_reducible apply Blk.drew | with_reducible apply Blk.drewN | with_reducible apply Blk.keep0 (hm := by with_reducible assumption) | with_reducible apply Blk.keep (hm := by with_reducible assumption) (hg := by first | omega | exact not_two (by omega) (by omega)) | with_reducible apply Blk.far (hp := by first | omega | (simp; done) | (simp; omega)) | with_reducible apply Blk.set1 | rfl)) rfl (by omega) (by simp; omega) ?_; rintro q1 cap1 w9 hq1 mq1 dq1 gq1 lq1)
          | (at_builtin; refine wpList_append_loc rfl (.tmp 102) (.tmp 104) _ rfl 3 i0 (.int .i64 0) Try.underlying57 hi hz0 hz1 hz2 rfl w.heap.size u14 (0) (lcv n (0)) rfl (((Lc8.out.far (S := nowhere) ((Mod.refl _ _).alloc _) (fun _ _ h => h)).far mq1 (fun b hb e => HD.out b e hb)).far (S := nowhere) ((Mod.refl _ _).alloc _) (fun _ _ h => h)) w9.heap.size (.int .i64 ((N : Int) + 1)) rfl (by repeat (first | with_reducible assumption | with_reducible apply Blk.new | with_reducible exact Blk.newAt (by first | rfl | (simp; done) | (simp; omega)) | with_reducible apply Blk.alloc | with_reducible apply Blk.drew | with_reducible apply Blk.drewN | with_reducible apply Blk.keep0 (hm := by with_reducible assumption) | with_reducible apply Blk.keep (hm := by with_reducible assumption) (hg := by first | omega | exact not_two (by omega) (by omega)) | with_reducible apply Blk.far (hp := by first | omega | (simp; done) | (simp; omega)) | with_reducible apply Blk.set1 | rfl)) rfl (by omega) (by have := mq1.size; simp at this ⊢; omega) ?_; rintro q2 cap2 w10 hq2 mq2 dq2 gq2 lq2))
        have hn1 : ∀ b, some b = (u13 : Value).ownBlock → ¬ In K r8 M q b := fun b hb => (At8.out.blk b hb).2.elim fun cur hc => hS8.notIn hc (by decide) (by decide) (by decide) (by decide) (by decide) (by decide) (by decide)
        have hn2 : ∀ b, some b = u14.ownBlock → ¬ In K r8 M q b := fun b hb => (Lc8.out.blk b hb).2.elim fun cur hc => hS8.notIn hc (by decide) (by decide) (by decide) (by decide) (by decide) (by decide) (by decide)
        have hS9 := (hS8.keep0 ((Mod.refl nowhere _).alloc _)).keep mq1 (fun b hb e => hn1 b e hb)
        have hS10 := (hS9.keep0 ((Mod.refl nowhere _).alloc _)).keep mq2 (fun b hb e => hn2 b e hb)
        have y10 : Mod nowhere w w10 := (((y8.alloc _).call mq1 (fun b e => .inr (At8.out.blk b e).1)).alloc _).call mq2 (fun b e => .inr (Lc8.out.blk b e).1)
        have hne1 : some q1 ≠ u14.ownBlock := by
          rcases dq1 with hh | hh
          · exact HD.out q1 hh
          · intro e
            obtain ⟨-, cur, hc⟩ := Lc8.out.blk q1 e
            have := hc.lt
            simp at hh
            omega
        have hne2 : q1 ≠ q2 := by
          rcases dq2 with hh | hh
          · rintro rfl; exact hne1 hh
          · simp at hh; omega
        have At10 := (hq1.far (S := nowhere) ((Mod.refl _ _).alloc _) (fun _ _ h => h)).far mq2 (fun b hb e => by simp [Value.ownBlock] at hb; exact hne1 (hb ▸ e))
        rw [show (N : Int) = 2 * (n : Int) + 1 + 2 * ((0 : Nat) : Int) by have := HN.out; omega, ← atv_succ] at At10
        rw [show (N : Int) + 1 = 2 * (n : Int) + 2 + 2 * ((0 : Nat) : Int) by have := HN.out; omega, ← lcv_succ] at hq2
        clear hS8 hS9 hn1 hn2 hq1 mq1 mq2 dq1 dq2
        (with_reducible refine (sys_load_at _ hS10 (0) _ j0 (by simpa using hj0) (by omega) rfl).mono ?_)
        rintro e w11 ⟨rfl, hS11, hm11⟩
        have y11 : Mod nowhere w w11 := y10.call hm11 fun i hi => .inr (hS10.ge hi.in_)
        have At11 := At10.far hm11 fun b hb hh => (At10.blk b hb).2.elim fun cur hc => hS10.notIn hc (by decide) (by decide) (by decide) (by decide) (by decide) (by decide) (by decide) hh.in_
        have Lc11 := hq2.far hm11 fun b hb hh => (hq2.blk b hb).2.elim fun cur hc => hS10.notIn hc (by decide) (by decide) (by decide) (by decide) (by decide) (by decide) (by decide) hh.in_
        clear hS10 At10 hq2 hm11
        go_wp2_with fail
        (with_reducible refine (sys_swap_yes _ hS11 (0) (v j0 : Int) ((N : Int) + 1) j0 (N + 1) (by simpa using hj0) (by omega) (by omega) rfl).mono ?_)
        rintro e w12 ⟨rfl, hS12, hm12⟩
        have y12 : Mod nowhere w w12 := y11.call hm12 fun i hi => .inr (hS11.ge hi.in_)
        have At12 := At11.far hm12 fun b hb hh => (At11.blk b hb).2.elim fun cur hc => hS11.notIn hc (by decide) (by decide) (by decide) (by decide) (by decide) (by decide) (by decide) hh.in_
        have Lc12 := Lc11.far hm12 fun b hb hh => (Lc11.blk b hb).2.elim fun cur hc => hS11.notIn hc (by decide) (by decide) (by decide) (by decide) (by decide) (by decide) (by decide) hh.in_
        clear hS11 At11 Lc11 hm12 
        go_wp2
        exact ⟨⟨(0) + 1, r8, N + 1 + 1, cs8, _, by go_num, by omega, by have := HN.out; omega, hS12, F8.out, A9.out, At12, Lc12, (fun b hb => by simp [Value.ownBlock] at hb ⊢; omega), y12⟩, by simp [intOf] <;> omega⟩
      · go_wp2_with fail
        (with_reducible refine (sys_bld _ hS7 y7.size (2 * (n : Int)) (2 * (n : Int) + 1 + 2 * (kk : Int)) (N : Int) pp x3 oo N (by have := HO1.out; simp only [oldv] at this; omega) rfl (by have := HN.out; have := HO2.out; omega) (by omega) ho3 v7.out (by omega) (by omega)).mono ?_)
        rintro e w8 ⟨r8, rfl, hS8, hr8, hm8⟩
        have y8 : Mod nowhere w w8 := y7.call hm8 fun i hi => .inr (hS7.ge hi)
        have At8 := hide (At7.out.far hm8 fun b hb => (At7.out.blk b hb).2.elim fun cur hc => hS7.notIn hc (by decide) (by decide) (by decide) (by decide) (by decide) (by decide) (by decide))
        have Lc8 := hide (Lc7.out.far hm8 fun b hb => (Lc7.out.blk b hb).2.elim fun cur hc => hS7.notIn hc (by decide) (by decide) (by decide) (by decide) (by decide) (by decide) (by decide))
        have v8 := hide (Rec9.new 2 0 (2 * (n : Int)) (2 * (n : Int) + 1 + 2 * (kk : Int)) (N : Int) 0 0 0 0 hS7.cf.arn.len)
        have F8 := hide (F7.out.more (cs' := [.int .i64 2, .int .i64 0, .int .i64 (2 * (n : Int)), .int .i64 (2 * (n : Int) + 1 + 2 * (kk : Int)), .int .i64 (N : Int), .int .i64 0, .int .i64 0, .int .i64 0, .int .i64 0]))
        have A8 := hide (A7.out.more (cs' := [.int .i64 2, .int .i64 0, .int .i64 (2 * (n : Int)), .int .i64 (2 * (n : Int) + 1 + 2 * (kk : Int)), .int .i64 (N : Int), .int .i64 0, .int .i64 0, .int .i64 0, .int .i64 0]))
        have w78 := hide (v7.out.more (cs' := [.int .i64 2, .int .i64 0, .int .i64 (2 * (n : Int)), .int .i64 (2 * (n : Int) + 1 + 2 * (kk : Int)), .int .i64 (N : Int), .int .i64 0, .int .i64 0, .int .i64 0, .int .i64 0]))
        generalize cs7 ++ [.int .i64 2, .int .i64 0, .int .i64 (2 * (n : Int)), .int .i64 (2 * (n : Int) + 1 + 2 * (kk : Int)), .int .i64 (N : Int), .int .i64 0, .int .i64 0, .int .i64 0, .int .i64 0] = cs8 at hS8 v8 F8 A8 w78
        have A9 := hide (A8.out.snoc HX3.out (by have := w78.out; rwa [HN.out] at this) (by
          have := v8.out
          rw [show N + 1 = 2 * n + 2 + 2 * (kk + 1) by have := HN.out; omega, show (N : Int) = 2 * (n : Int) + 1 + 2 * ((kk + 1 : Nat) : Int) by have := HN.out; omega] at this
          exact this))
        clear hS7 hm8 v8 w78 A8 v7 hc9
        have hz8 := y8.size
        go_wp2_with (first
          | (at_builtin; refine wpList_append_loc rfl (.tmp 98) (.tmp 100) _ rfl 3 i0 (.int .i64 0) Try.underlying57 hi hz0 hz1 hz2 rfl w.heap.size (.slice (some ⟨qa9, 0, none⟩) (kk + 1) cap9) (kk + 1) (atv n (kk + 1)) rfl (At8.out.far (S := nowhere) (by repeat (first | with_reducible exact Mod.refl _ _ | with_reducible assumption | with_reducible refine Mod.alloc ?_ _ | with_reducible refine Mod.drew ?_ | with_reducible refine Mod.drewN ?_ _ | with_reducible refine Mod.setCell ?_ (by first | exact .inl rfl | (left; (try unfold from_); show _ ≤ _; first | omega | (simp; done) | (simp; omega)) | (right; first | omega | (simp; done) | (simp; omega))) _ | with_reducible refine Mod.call0 ?_ (by with_reducible assumption) | with_reducible refine Mod.call ?_ (by with_reducible assumption) (by first | (rintro _ rfl; first | exact .inl rfl | (right; (first | omega | (simp; done) | (simp; omega)))) | (rintro _ (rfl | rfl) <;> (right; (first | omega | (simp; done) | (simp; omega))))))) (fun _ _ h => h)) w8.heap.size (.int .i64 (N : Int)) rfl (by repeat (first | with_reducible assumption | with_reducible apply Blk.new | with_reducible exact Blk.newAt (by first | rfl | (simp; done) | (simp; omega)) | with_reducible apply Blk.alloc | with_reducible apply Blk.drew | with_reducible apply Blk.drewN | with_reducible apply Blk.keep0 (hm := by with_reducible assumption) | with_reducible apply Blk.keep (hm := by with_reducible assumption) (hg := by first | omega | exact not_two (by omega) (by omega)) | with_reducible apply Blk.far (hp := by first | omega | (simp; done) | (simp; omega)) | with_reducible apply Blk.set1 | rfl)) rfl (by omega) (by simp; omega) ?_; rintro q1 cap1 w9 hq1 mq1 dq1 gq1 lq1)
          | (at_builtin; refine wpList_append_loc rfl (.tmp 102) (.tmp 104) _ rfl 3 i0 (.int .i64 0) Try.underlying57 hi hz0 hz1 hz2 rfl w.heap.size u14 (kk + 1) (lcv n (kk + 1)) rfl (((Lc8.out.far (S := nowhere) ((Mod.refl _ _).alloc _) (fun _ _ h => h)).far mq1 (fun b hb e => HD.out b e hb)).far (S := nowhere) ((Mod.refl _ _).alloc _) (fun _ _ h => h)) w9.heap.size (.int .i64 ((N : Int) + 1)) rfl (by repeat (first | with_reducible assumption | with_reducible apply Blk.new | with_reducible exact Blk.newAt (by first | rfl | (simp; done) | (simp; omega)) | with_reducible apply Blk.alloc | with_reducible apply Blk.drew | with_reducible apply Blk.drewN | with_reducible apply Blk.keep0 (hm := by with_reducible assumption) | with_reducible apply Blk.keep (hm := by with_reducible assumption) (hg := by first | omega | exact not_two (by omega) (by omega)) | with_reducible apply Blk.far (hp := by first | omega | (simp; done) | (simp; omega)) | with_reducible apply Blk.set1 | rfl)) rfl (by omega) (by have := mq1.size; simp at this ⊢; omega) ?_; rintro q2 cap2 w10 hq2 mq2 dq2 gq2 lq2))
        have hn1 : ∀ b, some b = (Value.slice (some ⟨qa9, 0, none⟩) (kk + 1) cap9).ownBlock → ¬ In K r8 M q b := fun b hb => (At8.out.blk b hb).2.elim fun cur hc => hS8.notIn hc (by decide) (by decide) (by decide) (by decide) (by decide) (by decide) (by decide)
        have hn2 : ∀ b, some b = u14.ownBlock → ¬ In K r8 M q b := fun b hb => (Lc8.out.blk b hb).2.elim fun cur hc => hS8.notIn hc (by decide) (by decide) (by decide) (by decide) (by decide) (by decide) (by decide)
        have hS9 := (hS8.keep0 ((Mod.refl nowhere _).alloc _)).keep mq1 (fun b hb e => hn1 b e hb)
        have hS10 := (hS9.keep0 ((Mod.refl nowhere _).alloc _)).keep mq2 (fun b hb e => hn2 b e hb)
        have y10 : Mod nowhere w w10 := (((y8.alloc _).call mq1 (fun b e => .inr (At8.out.blk b e).1)).alloc _).call mq2 (fun b e => .inr (Lc8.out.blk b e).1)
        have hne1 : some q1 ≠ u14.ownBlock := by
          rcases dq1 with hh | hh
          · exact HD.out q1 hh
          · intro e
            obtain ⟨-, cur, hc⟩ := Lc8.out.blk q1 e
            have := hc.lt
            simp at hh
            omega
        have hne2 : q1 ≠ q2 := by
          rcases dq2 with hh | hh
          · rintro rfl; exact hne1 hh
          · simp at hh; omega
        have At10 := (hq1.far (S := nowhere) ((Mod.refl _ _).alloc _) (fun _ _ h => h)).far mq2 (fun b hb e => by simp [Value.ownBlock] at hb; exact hne1 (hb ▸ e))
        rw [show (N : Int) = 2 * (n : Int) + 1 + 2 * ((kk + 1 : Nat) : Int) by have := HN.out; omega, ← atv_succ] at At10
        rw [show (N : Int) + 1 = 2 * (n : Int) + 2 + 2 * ((kk + 1 : Nat) : Int) by have := HN.out; omega, ← lcv_succ] at hq2
        clear hS8 hS9 hn1 hn2 hq1 mq1 mq2 dq1 dq2
        (with_reducible refine (sys_load_at _ hS10 (((kk : Int) + 1) % (n : Int)) _ j0 (by simpa using hj0) (by omega) rfl).mono ?_)
        rintro e w11 ⟨rfl, hS11, hm11⟩
        have y11 : Mod nowhere w w11 := y10.call hm11 fun i hi => .inr (hS10.ge hi.in_)
        have At11 := At10.far hm11 fun b hb hh => (At10.blk b hb).2.elim fun cur hc => hS10.notIn hc (by decide) (by decide) (by decide) (by decide) (by decide) (by decide) (by decide) hh.in_
        have Lc11 := hq2.far hm11 fun b hb hh => (hq2.blk b hb).2.elim fun cur hc => hS10.notIn hc (by decide) (by decide) (by decide) (by decide) (by decide) (by decide) (by decide) hh.in_
        clear hS10 At10 hq2 hm11
        go_wp2_with fail
        (with_reducible refine (sys_swap_yes _ hS11 (((kk : Int) + 1) % (n : Int)) (v j0 : Int) ((N : Int) + 1) j0 (N + 1) (by simpa using hj0) (by omega) (by omega) rfl).mono ?_)
        rintro e w12 ⟨rfl, hS12, hm12⟩
        have y12 : Mod nowhere w w12 := y11.call hm12 fun i hi => .inr (hS11.ge hi.in_)
        have At12 := At11.far hm12 fun b hb hh => (At11.blk b hb).2.elim fun cur hc => hS11.notIn hc (by decide) (by decide) (by decide) (by decide) (by decide) (by decide) (by decide) hh.in_
        have Lc12 := Lc11.far hm12 fun b hb hh => (Lc11.blk b hb).2.elim fun cur hc => hS11.notIn hc (by decide) (by decide) (by decide) (by decide) (by decide) (by decide) (by decide) hh.in_
        clear hS11 At11 Lc11 hm12 
        go_wp2
        exact ⟨⟨(kk + 1) + 1, r8, N + 1 + 1, cs8, _, by go_num, by omega, by have := HN.out; omega, hS12, F8.out, A9.out, At12, Lc12, (fun b hb => by simp [Value.ownBlock] at hb ⊢; omega), y12⟩, by simp [intOf] <;> omega⟩
    · obtain rfl : n3 = k := by omega
      have HA := hide hA
      have HN := hide hN
      have hNb : N < 62 := by omega
      have i64n : I64 (2 * (n : Int)) := by unfold I64; omega
      clear hF hA hD hN
      go_wp2_with fail
      (with_reducible refine (sys_turn _ hS (2 * (n : Int)) to d i64n HM2.out).mono ?_)
      rintro e w21 ⟨rfl, hS21, hm21⟩
      have y21 : Mod nowhere w w21 := hmr.call hm21 fun i hi => .inr (hS.ge hi.in_)
      have At21 := hide (hAt.far hm21 fun b hb hh => (hAt.blk b hb).2.elim fun cur hc => hS.notIn hc (by decide) (by decide) (by decide) (by decide) (by decide) (by decide) (by decide) hh.in_)
      have Lc21 := hide (hLc.far hm21 fun b hb hh => (hLc.blk b hb).2.elim fun cur hc => hS.notIn hc (by decide) (by decide) (by decide) (by decide) (by decide) (by decide) (by decide) hh.in_)
      clear hS hAt hLc hm21
      generalize (updz st (2 * (n : Int)) (if st (2 * (n : Int)) = 1 ∧ (to = 2 ∨ to = 3) then to else st (2 * (n : Int)))) = st2 at hS21
      go_wp2_with fail
      go_loopw [23, 24, 25, 26, 27, 28] (fun s23 _ _ _ _ _ wx => ∃ (i : Nat), s23 = .int .i64 i ∧ i ≤ n3 ∧ Sys wx w.heap.size K r N cs v (0 + 1) M q st2 ∧ LocRow wx w.heap.size 3 1 u13 n3 (atv n n3) ∧ LocRow wx w.heap.size 3 1 u14 n3 (lcv n n3) ∧ Mod nowhere w wx)
        (fun s23 _ _ _ _ _ _ => (300 - (intOf s23)).toNat)
      case atStart => exact ⟨0, rfl, Nat.zero_le _, hS21, At21.out, Lc21.out, y21⟩
      case round =>
        obtain ⟨i, rfl, hi3, hS, hAt, hLc, hmr⟩ := hrel
        by_cases hlt : i < n3
        · obtain ⟨b3, o3, rfl, hbl3, hcell3⟩ := HR3.out.form (by omega) (by omega)
          obtain ⟨x3, hx3⟩ : ∃ x3, l3[i]? = some x3 := ⟨_, List.getElem?_eq_getElem (show i < l3.length by have := HL3.out; omega)⟩
          obtain ⟨f1, f2⟩ := HA.out i x3 hlt hx3
          obtain ⟨ov, hov⟩ : ∃ ov, ov = oldv n i := ⟨_, rfl⟩
          rw [← hov] at f2
          have HOV := hide hov
          clear hov
          have HAt := hide hAt
          have HLc := hide hLc
          obtain ⟨qa, ca, rfl, ga, la, hca⟩ := hAt.form (by omega)
          obtain ⟨ql, cl, rfl, gl, ll, hcl⟩ := hLc.form (by omega)
          have k1 := hide (fun W (hW : Mod nowhere wr W) => (hW.cell i la id).trans (hca i _ (atv_at n n3 i hlt)))
          have k2 := hide (fun W (hW : Mod nowhere wr W) => (hW.cell i ll id).trans (hcl i _ (lcv_at n n3 i hlt)))
          have k3 := hide (fun W (hW : Mod nowhere w W) => (hW.cell (o3 + i) hbl3 id).trans (hcell3 i (.int .i64 x3) (by simp [hx3])))
          have k4 := hide (fun (j : Nat) (hj : j < n3) W (hW : Mod nowhere wr W) => (hW.cell j la id).trans (hca j _ (atv_at n n3 j hj)))
          have HS := hide hS
          clear hcell3 hx3 hca hcl hAt hLc hS
          have c1 := k1.out _ (Mod.refl _ _)
          go_wp2_with fail
          (with_reducible refine (sys_val _ HS.out (2 * (n : Int) + 1 + 2 * (i : Int)) (2 * n + 1 + 2 * i) x3 (by omega) (by have := HN.out; omega) f1).mono ?_)
          rintro e w31 ⟨rfl, hm31⟩
          clear c1
          have c2 := k2.out _ hm31
          go_wp2_with fail
          (with_reducible refine (sys_loc _ (HS.out.keep0 hm31) (2 * (n : Int) + 2 + 2 * (i : Int)) (2 * n + 2 + 2 * i) (2 * (n : Int)) ov (2 * (n : Int) + 1 + 2 * (i : Int)) (by omega) (by have := HN.out; omega) f2).mono ?_)
          rintro e w32 ⟨rfl, hm32⟩
          clear c2
          have m32 : Mod nowhere wr w32 := hm31.call0 hm32
          have y32 : Mod nowhere w w32 := hmr.call0 m32
          obtain ⟨w33, hw33⟩ : ∃ w33, w33 = w32.alloc (.cells #[.int .i64 2, .int .i64 0, .int .i64 (2 * (n : Int)), .int .i64 ov, .int .i64 (2 * (n : Int) + 1 + 2 * (i : Int)), .int .i64 0, .int .i64 0, .int .i64 0, .int .i64 0] 40) := ⟨_, rfl⟩
          have hm33 : Mod nowhere w32 w33 := by rw [hw33]; exact (Mod.refl _ _).alloc _
          have LB := Blk.new w32 40 #[.int .i64 2, .int .i64 0, .int .i64 (2 * (n : Int)), .int .i64 ov, .int .i64 (2 * (n : Int) + 1 + 2 * (i : Int)), .int .i64 0, .int .i64 0, .int .i64 0, .int .i64 0]
          rw [← hw33] at LB
          have m33 : Mod nowhere wr w33 := m32.call0 hm33
          have c1 := k1.out _ m33
          have c3 := k3.out _ (hmr.call0 m33)
          rw [hw33] at c1 c3 LB
          have cL := LB.cell
          have hold : i = 0 ∨ ∃ ii, i = ii + 1 := by cases i with
            | zero => exact .inl rfl
            | succ ii => exact .inr ⟨ii, rfl⟩
          rcases hold with rfl | ⟨ii, rfl⟩
          · obtain rfl : ov = 0 := HOV.out
            simp only [show ((0 : Nat) : Int) = 0 from rfl, Nat.add_zero, Int.mul_zero, Int.add_zero] at c1 c3 cL
            go_wp2
            go_region
            all_goals go_wp2
            all_goals exact ⟨⟨0 + 1, by go_num, by omega, (HS.out.keep0 m32).keep0 (by repeat (first | with_reducible exact Mod.refl _ _ | with_reducible assumption | with_reducible refine Mod.alloc ?_ _ | with_reducible refine Mod.drew ?_ | with_reducible refine Mod.drewN ?_ _ | with_reducible refine Mod.setCell ?_ (by first | exact .inl rfl | (left; (try unfold from_); show _ ≤ _; first | omega | (simp; done) | (simp; omega)) | (right; first | omega | (simp; done) | (simp; omega))) _ | with_reducible refine Mod.call0 ?_ (by with_reducible assumption) | with_reducible refine Mod.call ?_ (by with_reducible assumption) (by first | (rintro _ rfl; first | exact .inl rfl | (right; (first | omega | (simp; done) | (simp; omega)))) | (rintro _ (rfl | rfl) <;> (right; (first | omega | (simp; done) | (simp; omega))))))), (HAt.out.far m32 (fun _ _ h => h)).far (S := nowhere) (by repeat (first | with_reducible exact Mod.refl _ _ | with_reducible assumption | with_reducible refine Mod.alloc ?_ _ | with_reducible refine Mod.drew ?_ | with_reducible refine Mod.drewN ?_ _ | with_reducible refine Mod.setCell ?_ (by first | exact .inl rfl | (left; (try unfold from_); show _ ≤ _; first | omega | (simp; done) | (simp; omega)) | (right; first | omega | (simp; done) | (simp; omega))) _ | with_reducible refine Mod.call0 ?_ (by with_reducible assumption) | with_reducible refine Mod.call ?_ (by with_reducible assumption) (by first | (rintro _ rfl; first | exact .inl rfl | (right; (first | omega | (simp; done) | (simp; omega)))) | (rintro _ (rfl | rfl) <;> (right; (first | omega | (simp; done) | (simp; omega))))))) (fun _ _ h => h), (HLc.out.far m32 (fun _ _ h => h)).far (S := nowhere) (by repeat (first | with_reducible exact Mod.refl _ _ | with_reducible assumption | with_reducible refine Mod.alloc ?_ _ | with_reducible refine Mod.drew ?_ | with_reducible refine Mod.drewN ?_ _ | with_reducible refine Mod.setCell ?_ (by first | exact .inl rfl | (left; (try unfold from_); show _ ≤ _; first | omega | (simp; done) | (simp; omega)) | (right; first | omega | (simp; done) | (simp; omega))) _ | with_reducible refine Mod.call0 ?_ (by with_reducible assumption) | with_reducible refine Mod.call ?_ (by with_reducible assumption) (by first | (rintro _ rfl; first | exact .inl rfl | (right; (first | omega | (simp; done) | (simp; omega)))) | (rintro _ (rfl | rfl) <;> (right; (first | omega | (simp; done) | (simp; omega))))))) (fun _ _ h => h), y32.call0 (by repeat (first | with_reducible exact Mod.refl _ _ | with_reducible assumption | with_reducible refine Mod.alloc ?_ _ | with_reducible refine Mod.drew ?_ | with_reducible refine Mod.drewN ?_ _ | with_reducible refine Mod.setCell ?_ (by first | exact .inl rfl | (left; (try unfold from_); show _ ≤ _; first | omega | (simp; done) | (simp; omega)) | (right; first | omega | (simp; done) | (simp; omega))) _ | with_reducible refine Mod.call0 ?_ (by with_reducible assumption) | with_reducible refine Mod.call ?_ (by with_reducible assumption) (by first | (rintro _ rfl; first | exact .inl rfl | (right; (first | omega | (simp; done) | (simp; omega)))) | (rintro _ (rfl | rfl) <;> (right; (first | omega | (simp; done) | (simp; omega)))))))⟩, by simp [intOf] <;> omega⟩
          · obtain rfl : ov = 2 * (n : Int) + 1 + 2 * (ii : Int) := HOV.out
            have c4 := k4.out ii (by omega) _ m33
            rw [hw33] at c4
            simp only [show ((ii + 1 : Nat) : Int) = (ii : Int) + 1 from by omega] at c1 c3 c4 cL
            go_wp2
            go_region
            all_goals go_wp2
            all_goals exact ⟨⟨ii + 1 + 1, by go_num, by omega, (HS.out.keep0 m32).keep0 (by repeat (first | with_reducible exact Mod.refl _ _ | with_reducible assumption | with_reducible refine Mod.alloc ?_ _ | with_reducible refine Mod.drew ?_ | with_reducible refine Mod.drewN ?_ _ | with_reducible refine Mod.setCell ?_ (by first | exact .inl rfl | (left; (try unfold from_); show _ ≤ _; first | omega | (simp; done) | (simp; omega)) | (right; first | omega | (simp; done) | (simp; omega))) _ | with_reducible refine Mod.call0 ?_ (by with_reducible assumption) | with_reducible refine Mod.call ?_ (by with_reducible assumption) (by first | (rintro _ rfl; first | exact .inl rfl | (right; (first | omega | (simp; done) | (simp; omega)))) | (rintro _ (rfl | rfl) <;> (right; (first | omega | (simp; done) | (simp; omega))))))), (HAt.out.far m32 (fun _ _ h => h)).far (S := nowhere) (by repeat (first | with_reducible exact Mod.refl _ _ | with_reducible assumption | with_reducible refine Mod.alloc ?_ _ | with_reducible refine Mod.drew ?_ | with_reducible refine Mod.drewN ?_ _ | with_reducible refine Mod.setCell ?_ (by first | exact .inl rfl | (left; (try unfold from_); show _ ≤ _; first | omega | (simp; done) | (simp; omega)) | (right; first | omega | (simp; done) | (simp; omega))) _ | with_reducible refine Mod.call0 ?_ (by with_reducible assumption) | with_reducible refine Mod.call ?_ (by with_reducible assumption) (by first | (rintro _ rfl; first | exact .inl rfl | (right; (first | omega | (simp; done) | (simp; omega)))) | (rintro _ (rfl | rfl) <;> (right; (first | omega | (simp; done) | (simp; omega))))))) (fun _ _ h => h), (HLc.out.far m32 (fun _ _ h => h)).far (S := nowhere) (by repeat (first | with_reducible exact Mod.refl _ _ | with_reducible assumption | with_reducible refine Mod.alloc ?_ _ | with_reducible refine Mod.drew ?_ | with_reducible refine Mod.drewN ?_ _ | with_reducible refine Mod.setCell ?_ (by first | exact .inl rfl | (left; (try unfold from_); show _ ≤ _; first | omega | (simp; done) | (simp; omega)) | (right; first | omega | (simp; done) | (simp; omega))) _ | with_reducible refine Mod.call0 ?_ (by with_reducible assumption) | with_reducible refine Mod.call ?_ (by with_reducible assumption) (by first | (rintro _ rfl; first | exact .inl rfl | (right; (first | omega | (simp; done) | (simp; omega)))) | (rintro _ (rfl | rfl) <;> (right; (first | omega | (simp; done) | (simp; omega))))))) (fun _ _ h => h), y32.call0 (by repeat (first | with_reducible exact Mod.refl _ _ | with_reducible assumption | with_reducible refine Mod.alloc ?_ _ | with_reducible refine Mod.drew ?_ | with_reducible refine Mod.drewN ?_ _ | with_reducible refine Mod.setCell ?_ (by first | exact .inl rfl | (left; (try unfold from_); show _ ≤ _; first | omega | (simp; done) | (simp; omega)) | (right; first | omega | (simp; done) | (simp; omega))) _ | with_reducible refine Mod.call0 ?_ (by with_reducible assumption) | with_reducible refine Mod.call ?_ (by with_reducible assumption) (by first | (rintro _ rfl; first | exact .inl rfl | (right; (first | omega | (simp; done) | (simp; omega)))) | (rintro _ (rfl | rfl) <;> (right; (first | omega | (simp; done) | (simp; omega)))))))⟩, by simp [intOf] <;> omega⟩
        · obtain rfl : n3 = i := by omega
          go_wp2
          go_ret
          exact ⟨rfl, hmr⟩
end Go.Proofs.Ytelammmgcfmlbaa
