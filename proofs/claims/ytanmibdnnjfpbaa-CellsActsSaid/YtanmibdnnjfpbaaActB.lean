/- The document's records: Start. -/
import Derived.Test.YtanmibdnnjfpbaaActA
namespace Go.Proofs.Ytanmibdnnjfpbaa
open Go.RowKit

theorem ainfo_i : (Try.prog.info? 3).map (fun i => (i.zero, i.size, i.bytes)) = some (some (.int .i64 0), 1, 8) := by kernel_rfl
theorem owns_keepN {S : Nat → Prop} {w w' : World} {E : TypeId} {size r g n cap : Nat} {A : Option Addr} {cs : List Value} (h : w.ownsRow 0 E size (.slice A n cap) n cs) (hr : (n = 0 ∧ A = none ∧ cap = 0 ∧ r = g) ∨ (A = some ⟨r, 0, none⟩ ∧ r ≠ g))
    (hm : Mod S w w') (hq : r ≠ g → ¬ S r) : w'.ownsRow 0 E size (.slice A n cap) n cs := by
  rcases hr with ⟨rfl, rfl, rfl, rfl⟩ | ⟨rfl, hne⟩
  · exact ⟨h.1, .inl ⟨rfl, rfl⟩⟩
  · exact owns_keep h hm (hq hne)
theorem grown_mod {w0 w1 : World} {r g n cap : Nat} {A : Option Addr} (hr : (n = 0 ∧ A = none ∧ cap = 0 ∧ r = g) ∨ (A = some ⟨r, 0, none⟩ ∧ r ≠ g)) (hgrow : w0.grownBy w1 (Value.slice A n cap).ownBlock) : Mod (fun b => b = r ∧ r ≠ g) w0 w1 :=
  (Mod.of_grown hgrow).mono fun b hb => by
    rcases hr with ⟨-, rfl, -, -⟩ | ⟨rfl, hne⟩
    · simp [Value.ownBlock] at hb
    · simp [Value.ownBlock] at hb
      exact ⟨hb, hne⟩
/-- The numbers of the first locators. -/
def ats0 (k : Nat) : List Value := (List.range k).map fun i => .int .i64 ((2 * i + 1 : Nat) : Int)
theorem ats0_succ (k : Nat) : ats0 (k + 1) = ats0 k ++ [.int .i64 (2 * (k : Int) + 1)] := by
  unfold ats0
  rw [List.range_succ, List.map_append]
  simp
theorem ats0_len (k : Nat) : (ats0 k).length = k := by simp [ats0]
/-- A row of numbers v 0, v 1, .. -/
def RowV (w : World) (ra k ca : Nat) (v : Nat → Nat) : Prop := ∃ cur : Array Value, Blk w ra 3 cur ∧ k ≤ ca ∧ ca ≤ maxLen ∧ k ≤ cur.size ∧ ∀ i, i < k → cur[i]? = some (.int .i64 (v i))
def Started (w w' : World) (g m k : Nat) (n : Int) (l : List Int) : Prop :=
  ∃ rl ra ca cs, RecL w' g rl (2 * k) n (.slice (some ⟨ra, 0, none⟩) k ca) (.map (some m)) cs ∧ RowV w' ra k ca (fun i => 2 * i + 1) ∧ First l k cs ∧ w.heap.size ≤ rl ∧ w.heap.size ≤ ra ∧ Mod (· = g) w w'
set_option maxRecDepth 100000 in
set_option maxHeartbeats 8000000 in
theorem rstart_calls (l : List Int) (g m b o cap k0 : Nat) (n : Int) (w : World) (hb : Blk w g 37 #[.int .i64 n, .slice none 0 0, .slice none 0 0, .map (some m)]) (hl : l.length = k0) (h1 : 1 ≤ k0) (h8 : k0 ≤ 8) (h2 : 2 * (k0 : Int) ≤ n) (h4 : n ≤ 4096) (hbw : b < w.heap.size) (hne : b ≠ g) (hx : ∀ k x, l[k]? = some x → w.cell? ⟨b, o + k, none⟩ = some (.int .i64 x)) :
    Calls Try.prog 7 #[.pointer (some ⟨g, 0, none⟩), .slice (some ⟨b, o, none⟩) k0 cap] w fun e w' => e = .returned (.tuple #[]) ∧ Started w w' g m k0 n l := by
  have HX := hide hx
  have HL := hide hl
  have HB := hide hb
  have lg := hb.lt
  clear hx hl hb
  go_enter Try.func7, Try.ntmps7
  go_wp2_with fail
  go_loopw [4, 5] (fun s4 _ wx => ∃ (k rl ra : Nat) (Aa : Option Addr) (ca : Nat) (cs : List Value), s4 = .int .i64 k ∧ k ≤ k0 ∧ RecL wx g rl (2 * k) n (.slice Aa k ca) (.map (some m)) cs ∧ wx.ownsRow 0 3 1 (.slice Aa k ca) k (ats0 k) ∧ ((k = 0 ∧ Aa = none ∧ ca = 0 ∧ ra = g) ∨ (Aa = some ⟨ra, 0, none⟩ ∧ ra ≠ g)) ∧ (ra ≠ g → ra ≠ rl) ∧ First l k cs ∧ (rl = g ∨ w.heap.size ≤ rl) ∧ (ra = g ∨ w.heap.size ≤ ra) ∧ Mod (· = g) w wx)
    (fun s4 _ _ => (300 - (intOf s4)).toNat)
  case atStart => exact ⟨0, g, g, none, 0, [], rfl, Nat.zero_le _, Own.start HB.out, ⟨rfl, .inl ⟨rfl, rfl⟩⟩, .inl ⟨rfl, rfl, rfl, rfl⟩, fun h => absurd rfl h, fun i x hi => absurd hi (by omega), .inl rfl, .inl rfl, Mod.refl _ _⟩
  case round =>
    obtain ⟨k, rl, ra, Aa, ca, cs, rfl, hk, hL, ho, hr, hra, hF, hrl, hra2, hmr⟩ := hrel
    have hsz := hmr.size
    by_cases hlt : k < k0
    · have hx' : l[k]? = some (l[k]'(by have := HL.out; omega)) := List.getElem?_eq_getElem (by have := HL.out; omega)
      generalize l[k]'(by have := HL.out; omega) = x at hx'
      have cx := (hmr.cell (o + k) hbw hne).trans (HX.out k x hx')
      have fx := hmr.frozen (o + k) hbw hne
      have HK := hide hx'
      have HF := hide hF
      have HR := hide hr
      have HO := hide ho
      have HLL := hide hL
      have HRA := hide hra
      have hlt' : (k : Int) < (k0 : Int) := by omega
      have lra : ra < wr.heap.size := by
        rcases hr with ⟨-, -, -, e⟩ | ⟨rfl, e⟩
        · omega
        · rcases ho.2 with ⟨h, _⟩ | ⟨q', cap', cur, h, _, h3, _⟩
          · cases h
          · injection h with h1 _ _
            obtain rfl : ra = q' := by injection h1 with h1; injection h1
            exact (show Blk wr ra 3 cur from h3).lt
      have lrl := hL.lt.2
      clear hx' hF hr ho hL hra
      go_wp2_with fail
      (with_reducible refine (rput_ok 1 x 0 0 0 0 0 0 0 g rl (2 * k) n (.slice Aa k ca) (.map (some m)) cs _ HLL.out (by omega) h4).mono ?_)
      rintro e w7 ⟨rfl, ⟨r7, hr7, hne7, hL7⟩, hm7⟩
      have hz7 := hm7.size
      have ho7 := owns_keepN HO.out HR.out hm7 (fun h => not_two h (HRA.out h))
      have v7 : Rec9 (cs ++ [.int .i64 1, .int .i64 x, .int .i64 0, .int .i64 0, .int .i64 0, .int .i64 0, .int .i64 0, .int .i64 0, .int .i64 0]) (2 * k) 1 x 0 0 0 0 0 0 0 := Rec9.new 1 x 0 0 0 0 0 0 0 (Own.len HLL.out)
      have f7 : First l k (cs ++ [.int .i64 1, .int .i64 x, .int .i64 0, .int .i64 0, .int .i64 0, .int .i64 0, .int .i64 0, .int .i64 0, .int .i64 0]) := HF.out.more
      have hra7 : ra ≠ g → ra ≠ r7 := fun h => by
        have := HRA.out h
        omega
      generalize hcs7 : (cs ++ [.int .i64 1, .int .i64 x, .int .i64 0, .int .i64 0, .int .i64 0, .int .i64 0, .int .i64 0, .int .i64 0, .int .i64 0] : List Value) = cs7 at v7 hL7 f7
      clear hcs7
      obtain ⟨A7, cap7, hb7, -, -⟩ := hL7.open_
      have l8' : Rec9 (cs7 ++ [.int .i64 2, .int .i64 0, .int .i64 (-1), .int .i64 (2 * (k : Int)), .int .i64 (2 * (k : Int)), .int .i64 0, .int .i64 0, .int .i64 0, .int .i64 0]) (2 * k + 1) 2 0 (-1) (2 * (k : Int)) (2 * (k : Int)) 0 0 0 0 := Rec9.new 2 0 (-1) (2 * (k : Int)) (2 * (k : Int)) 0 0 0 0 (Own.len hL7)
      have f8 := hide ((f7.more (cs' := [.int .i64 2, .int .i64 0, .int .i64 (-1), .int .i64 (2 * (k : Int)), .int .i64 (2 * (k : Int)), .int .i64 0, .int .i64 0, .int .i64 0, .int .i64 0])).snoc HK.out v7.more l8')
      have HL7 := hide hL7
      have HO7 := hide ho7
      have HRA7 := hide hra7
      have l7 := hL7.lt.2
      have lg7 := hb7.lt
      obtain ⟨i0, hi, hz0, hz1, hz2⟩ := info_parts ainfo_i
      clear v7 f7 l8' hL7 ho7 hra7 cx fx
      have c_hb7 := hb7.cell; have f_hb7 := hb7.frozen; have l_hb7 := hb7.lt
      go_wp2_with fail
      go_region_law (first
        | (go_simp; go_at_call 9; (with_reducible refine (rput_ok 2 0 (-1) (2 * (k : Int)) (2 * (k : Int)) 0 0 0 0 g r7 (2 * k + 1) n (.slice Aa k ca) (.map (some m)) cs7 _ (HL7.out.keep0 ((by repeat (first | with_reducible exact Mod.refl _ _ | with_reducible assumption | with_reducible refine Mod.alloc ?_ _ | with_reducible refine Mod.drew ?_ | with_reducible refine Mod.drewN ?_ _ | with_reducible refine Mod.setCell ?_ (by first | exact .inl rfl | (left; (try unfold from_); show _ ≤ _; first | omega | (simp; done) | (simp; omega)) | (right; first | omega | (simp; done) | (simp; omega))) _ | with_reducible refine Mod.call0 ?_ (by with_reducible assumption) | with_reducible refine Mod.call ?_ (by with_reducible assumption) (by first | (rintro _ rfl; first | exact .inl rfl | (right; (first | omega | (simp; done) | (simp; omega)))) | (rintro _ (rfl | rfl) <;> (right; (first | omega | (simp; done) | (simp; omega))))))) : Mod nowhere w7 _)) (by omega) h4).mono ?_); rintro e w8 ⟨rfl, ⟨r8, hr8, hne8, hL8⟩, hm8⟩; have ho8 := owns_keepN (owns_keep0 HO7.out ((by repeat (first | with_reducible exact Mod.refl _ _ | with_reducible assumption | with_reducible refine Mod.alloc ?_ _ | with_reducible refine Mod.drew ?_ | with_reducible refine Mod.drewN ?_ _ | with_reducible refine Mod.setCell ?_ (by first | exact .inl rfl | (left; (try unfold from_); show _ ≤ _; first | omega | (simp; done) | (simp; omega)) | (right; first | omega | (simp; done) | (simp; omega))) _ | with_reducible refine Mod.call0 ?_ (by with_reducible assumption) | with_reducible refine Mod.call ?_ (by with_reducible assumption) (by first | (rintro _ rfl; first | exact .inl rfl | (right; (first | omega | (simp; done) | (simp; omega)))) | (rintro _ (rfl | rfl) <;> (right; (first | omega | (simp; done) | (simp; omega))))))) : Mod nowhere w7 _)) HR.out hm8 (fun h => not_two h (HRA7.out h)); have hz8 := hm8.size; (try simp at hz8); obtain ⟨A8, cap8, hb8, -, -⟩ := hL8.open_; have l8 := hL8.lt; have HL8 := hide hL8; have HO8 := hide ho8; clear hL8 ho8; have c_hb8 := hb8.cell; have f_hb8 := hb8.frozen; have l_hb8 := hb8.lt)
        | ((refine step_append_lies _ (by rfl) _ _ _ (by rfl) 0 3 i0 (.int .i64 0) 1 8 Try.underlying35 hi hz0 hz1 hz2 (by rfl) (by omega) _ k (ats0 k) (by rfl) (owns_keep0 HO8.out (by repeat (first | with_reducible exact Mod.refl _ _ | with_reducible assumption | with_reducible refine Mod.alloc ?_ _ | with_reducible refine Mod.drew ?_ | with_reducible refine Mod.drewN ?_ _ | with_reducible refine Mod.setCell ?_ (by first | exact .inl rfl | (left; (try unfold from_); show _ ≤ _; first | omega | (simp; done) | (simp; omega)) | (right; first | omega | (simp; done) | (simp; omega))) _ | with_reducible refine Mod.call0 ?_ (by with_reducible assumption) | with_reducible refine Mod.call ?_ (by with_reducible assumption) (by first | (rintro _ rfl; first | exact .inl rfl | (right; (first | omega | (simp; done) | (simp; omega)))) | (rintro _ (rfl | rfl) <;> (right; (first | omega | (simp; done) | (simp; omega)))))))) ⟨w8.heap.size, 0, none⟩ 1 1 [.int .i64 (2 * (k : Int) + 1)] (by rfl) (by rfl) (World.news_of_block (B := w8.heap.size) (cs := #[.int .i64 (2 * (k : Int) + 1)]) (t := 3) (fr := (0, 0)) (by show Blk _ _ _ _; exact (by repeat (first | with_reducible assumption | with_reducible apply Blk.new | with_reducible exact Blk.newAt (by first | rfl | (simp; done) | (simp; omega)) | with_reducible apply Blk.alloc | with_reducible apply Blk.drew | with_reducible apply Blk.drewN | with_reducible apply Blk.keep0 (hm := by with_reducible assumption) | with_reducible apply Blk.keep (hm := by with_reducible assumption) (hg := by first | omega | exact not_two (by omega) (by omega)) | with_reducible apply Blk.far (hp := by first | omega | (simp; done) | (simp; omega)) | with_reducible apply Blk.set1 | rfl)))) (by simp [Value.oneCell']) (by omega) (by unfold maxLen; omega) (by omega) (Nat.zero_le _) (w8.heap.size + 1) (by simp) ?_); intro q cap1 w1 hown hgrow hat hlt; have hgm := grown_mod HR.out hgrow; obtain ⟨z1, z2, z3, z4, z5⟩ := put_mid (mk := fun s => #[.int .i64 n, .slice A8 (2 * k + 1 + 1) cap8, s, .map (some m)]) (r := ra) hb8 (by repeat (first | with_reducible exact Mod.refl _ _ | with_reducible assumption | with_reducible refine Mod.alloc ?_ _ | with_reducible refine Mod.drew ?_ | with_reducible refine Mod.drewN ?_ _ | with_reducible refine Mod.setCell ?_ (by first | exact .inl rfl | (left; (try unfold from_); show _ ≤ _; first | omega | (simp; done) | (simp; omega)) | (right; first | omega | (simp; done) | (simp; omega))) _ | with_reducible refine Mod.call0 ?_ (by with_reducible assumption) | with_reducible refine Mod.call ?_ (by with_reducible assumption) (by first | (rintro _ rfl; first | exact .inl rfl | (right; (first | omega | (simp; done) | (simp; omega)))) | (rintro _ (rfl | rfl) <;> (right; (first | omega | (simp; done) | (simp; omega))))))) HR.out hgrow hat (by omega); clear hgrow hat; have cz := z3.cell; have fz := z3.frozen; have lz := z3.lt))
      all_goals
        go_wp2
        have hr8' : r8 = r7 ∨ w7.heap.size ≤ r8 := hr8
        have hra8 : ra ≠ g → ra ≠ r8 := fun h => by
          have := HRA7.out h
          omega
        have m81 : Mod (fun b => b = ra ∧ ra ≠ g) w8 w1 := (Mod.mono ((Mod.refl nowhere w8).alloc _) fun _ x => x.elim).trans hgm
        have hL1 := Own.keep HL8.out m81 (fun x => x.2 x.1.symm) (fun x => hra8 x.2 x.1.symm)
        have m12 : Mod (· = g) w1 (w1.setCell ⟨g, 2, none⟩ (.slice (some ⟨q, 0, none⟩) (k + 1) cap1)) := Mod.setCell (S := (· = g)) (Mod.refl _ _) (.inl rfl) _
        have hL2 : RecL (w1.setCell ⟨g, 2, none⟩ (.slice (some ⟨q, 0, none⟩) (k + 1) cap1)) g r8 (2 * (k + 1)) n (.slice (some ⟨q, 0, none⟩) (k + 1) cap1) (.map (some m)) _ := Own.remake hL1 m12 (fun v hv => hv.set1 rfl)
        have ho2 := owns_keep hown m12 z1
        have m7 : Mod (· = g) w w7 := hmr.call hm7 (fun b hb => by
          rcases hb with h | h
          · exact .inl h
          · rcases hrl with h' | h'
            · exact .inl (h.trans h')
            · exact .inr (h ▸ h'))
        have m8 : Mod (· = g) w w8 := (Mod.drew m7).call hm8 (fun b hb => by
          rcases hb with h | h
          · exact .inl h
          · exact .inr (by omega))
        have m9 : Mod (· = g) w w1 := m8.call m81 (fun b hb => .inr (by omega))
        refine ⟨⟨k + 1, r8, q, some ⟨q, 0, none⟩, cap1, _, by go_num, by omega, hL2, by rw [ats0_succ]; exact ho2, .inr ⟨rfl, z1⟩, fun _ => ?_, f8.out, by omega, by omega, m9.trans m12⟩, by simp [intOf] <;> omega⟩
        rcases z2 with h | h
        · have := hra8 (h ▸ z1)
          omega
        · omega
    · obtain rfl : k0 = k := by omega
      have hrow : RowV wr ra k0 ca (fun i => 2 * i + 1) ∧ Aa = some ⟨ra, 0, none⟩ ∧ ra ≠ g := by
        rcases hr with ⟨e, -, -, -⟩ | ⟨rfl, e⟩
        · omega
        · rcases ho.2 with ⟨h, _⟩ | ⟨q', cap', cur, h, _, h3, h5, h6, h7, h8'⟩
          · cases h
          · injection h with h1 h2 h3'
            obtain rfl : ra = q' := by injection h1 with h1; injection h1
            subst h3'
            refine ⟨⟨cur, h3, h5, h6, by omega, fun i hi => ?_⟩, rfl, e⟩
            have : (cur.toList.take (k0 * 1))[i]? = (ats0 k0)[i]? := by rw [h8']
            rw [List.getElem?_take_of_lt (by omega), Array.getElem?_toList] at this
            rw [this]
            simp [ats0, hi]
      obtain ⟨hrow, rfl, hne2⟩ := hrow
      have hrl2 : w.heap.size ≤ rl := by
        rcases hrl with rfl | h
        · exfalso
          obtain ⟨A, cap, _, _, h⟩ := hL.open_
          rcases h with ⟨h, _⟩ | ⟨_, h⟩
          · omega
          · exact h rfl
        · exact h
      go_wp2
      go_end0
      exact ⟨rfl, rl, ra, ca, cs, hL, hrow, hF, hrl2, by omega, hmr⟩
end Go.Proofs.Ytanmibdnnjfpbaa
