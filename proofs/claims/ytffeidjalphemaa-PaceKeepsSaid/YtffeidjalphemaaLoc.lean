/- A slice that a variable holds; two rows of whole numbers that are one. -/
import Derived.Test.YtffeidjalphemaaPaceSpec
namespace Go.Proofs.Ytffeidjalphemaa
open Go.RowKit

theorem ainfo_int : (Try.prog.info? 3).map (fun i => (i.zero, i.size, i.bytes)) = some (some (.int .i64 0), 1, 8) := by kernel_rfl
/-- A slice held in a variable whose row, if any, was made behind H. -/
def LocRow (w : World) (H : Nat) (E : TypeId) (size : Nat) (v : Value) (n : Nat) (cs : List Value) : Prop :=
  ∃ A cap, v = .slice A n cap ∧ w.ownsRow 0 E size (.slice A n cap) n cs ∧ ((n = 0 ∧ A = none ∧ cap = 0) ∨ ∃ q, A = some ⟨q, 0, none⟩ ∧ H ≤ q)
theorem LocRow.nil (w : World) (H : Nat) (E : TypeId) (size : Nat) : LocRow w H E size (.slice none 0 0) 0 [] := ⟨none, 0, rfl, ⟨by simp, .inl ⟨rfl, rfl⟩⟩, .inl ⟨rfl, rfl, rfl⟩⟩
theorem LocRow.keep {S : Nat → Prop} {w w' : World} {H : Nat} {E : TypeId} {size : Nat} {v : Value} {n : Nat} {cs : List Value} (h : LocRow w H E size v n cs) (hm : Mod S w w') (hS : ∀ b, S b → b < H) : LocRow w' H E size v n cs := by
  obtain ⟨A, cap, rfl, ho, hA⟩ := h
  refine ⟨A, cap, rfl, ?_, hA⟩
  rcases hA with ⟨rfl, rfl, rfl⟩ | ⟨q, rfl, hq⟩
  · exact ⟨ho.1, .inl ⟨rfl, rfl⟩⟩
  · exact owns_keep ho hm fun hs => by have := hS q hs; omega
theorem LocRow.keep0 {w w' : World} {H : Nat} {E : TypeId} {size : Nat} {v : Value} {n : Nat} {cs : List Value} (h : LocRow w H E size v n cs) (hm : Mod nowhere w w') : LocRow w' H E size v n cs := h.keep hm fun _ x => x.elim

theorem LocRow.blk {w : World} {H : Nat} {E : TypeId} {size : Nat} {v : Value} {n : Nat} {cs : List Value} (h : LocRow w H E size v n cs) : ∀ b, some b = v.ownBlock → H ≤ b ∧ ∃ cur, Blk w b E cur := by
  intro b hb
  obtain ⟨A, cap, rfl, ho, hA⟩ := h
  rcases hA with ⟨rfl, rfl, rfl⟩ | ⟨q, rfl, hq⟩
  · simp [Value.ownBlock] at hb
  · simp [Value.ownBlock] at hb
    subst hb
    exact ⟨hq, ownsRow_blk ho⟩
theorem LocRow.far {S : Nat → Prop} {w w' : World} {H : Nat} {E : TypeId} {size : Nat} {v : Value} {n : Nat} {cs : List Value} (h : LocRow w H E size v n cs) (hm : Mod S w w') (hS : ∀ b, some b = v.ownBlock → ¬ S b) : LocRow w' H E size v n cs := by
  obtain ⟨A, cap, rfl, ho, hA⟩ := h
  refine ⟨A, cap, rfl, ?_, hA⟩
  rcases hA with ⟨rfl, rfl, rfl⟩ | ⟨q, rfl, hq⟩
  · exact ⟨ho.1, .inl ⟨rfl, rfl⟩⟩
  · exact owns_keep ho hm (hS q rfl)
/-- An append of one thing to a slice that a variable holds. -/
theorem wpList_append_loc {ops : Array Oper} {rest : List Oper} {o : Oper} {a : Act} {Q : Exit → Act → World → Prop} {w : World} (hgd : o.guard = none) (s x : Operand) (t : TypeId)
    (ho : o.op = .call { callee := .builtin .append, args := #[s, x], argTypes := #[t, t] }) (E : TypeId) (i : TypeInfo) (z : Value) (ht : Try.prog.underlying t = some (.slice E)) (hi : Try.prog.info? E = some i) (hz : i.zero = some z)
    (hsize : i.size = 1) (hby : i.bytes = 8) (hzs : z.cells.size = 1) (H : Nat) (v : Value) (n : Nat) (xs : List Value) (hs : a.eval s = v) (hown : LocRow w H E 1 v n xs) (g : Nat) (u : Value) (hx : a.eval x = .slice (some ⟨g, 0, none⟩) 1 1)
    (hb : Blk w g E #[u]) (hu : u.oneCell' = true) (hn : n ≤ 100000) (hH : H ≤ w.heap.size)
    (h : ∀ q cap w', LocRow w' H E 1 (.slice (some ⟨q, 0, none⟩) (n + 1) cap) (n + 1) (xs ++ [u]) → Mod (fun b => some b = v.ownBlock) w w' → (some q = v.ownBlock ∨ w.heap.size ≤ q) → H ≤ q → q < w'.heap.size →
      wpList Try.prog ops Q rest (a.put o.dst (.slice (some ⟨q, 0, none⟩) (n + 1) cap)) w') : wpList Try.prog ops Q (o :: rest) a w := by
  obtain ⟨A, cap, rfl, hrow, hA⟩ := hown
  refine wpList_append_lies _ hgd s x t ho 0 E i z 1 8 ht hi hz hsize hby hzs (by omega) _ n xs hs hrow ⟨g, 0, none⟩ 1 1 [u] hx rfl (World.news_of_block (B := g) (cs := #[u]) (t := E) (fr := (0, 0)) hb) (by simp [hu]) (by omega) (by unfold maxLen; omega) (by omega) (Nat.zero_le _) w.heap.size rfl ?_
  intro q cap1 w' hown hgrow hat hlt
  have hq : (some q = (Value.slice A n cap).ownBlock ∨ w.heap.size ≤ q) := by
    rcases hat with hh | hh
    · exact .inl hh.symm
    · exact .inr (by omega)
  have hH' : H ≤ q := by
    rcases hq with hh | hh
    · rcases hA with ⟨rfl, rfl, rfl⟩ | ⟨q', rfl, hq'⟩
      · simp [Value.ownBlock] at hh
      · simp [Value.ownBlock] at hh; omega
    · omega
  exact h q cap1 w' ⟨_, _, rfl, hown, .inr ⟨q, rfl, hH'⟩⟩ (Mod.of_grown hgrow) hq hH' hlt
theorem LocRow.form {w : World} {H : Nat} {E : TypeId} {v : Value} {n : Nat} {cs : List Value} (h : LocRow w H E 1 v n cs) (hn : 0 < n) : ∃ q cap, v = .slice (some ⟨q, 0, none⟩) n cap ∧ H ≤ q ∧ q < w.heap.size ∧ ∀ i u, cs[i]? = some u → w.cell? ⟨q, i, none⟩ = some u := by
  obtain ⟨A, cap, rfl, ho, hA⟩ := h
  rcases hA with ⟨rfl, rfl, rfl⟩ | ⟨q, rfl, hq⟩
  · omega
  · obtain ⟨cur, hc⟩ := ownsRow_blk ho
    refine ⟨q, cap, rfl, hq, hc.lt, fun i u hu => ?_⟩
    have hlt := (List.getElem?_eq_some_iff.1 hu).1
    rw [ho.cellAt i (by rw [← ho.1]; exact hlt)]
    exact hu
theorem Reads.keepMod {w w' : World} {B n : Nat} {A : Option Addr} {xs : List Value} (h : Reads w B 1 A n xs) (hB : B ≤ w.heap.size) (hm : Mod nowhere w w') : Reads w' B 1 A n xs :=
  h.keep fun p hp => World.cell?_of_block (hm.block p.block (by omega) id)
theorem LocRow.reads {w : World} {H n : Nat} {E : TypeId} {size : Nat} {z : Value} {xs : List Value} (h : LocRow w H E size z n xs) : ∃ A c, z = .slice A n c ∧ Reads w w.heap.size size A n xs := by
  obtain ⟨A, cap, rfl, ho, -⟩ := h
  exact ⟨A, cap, rfl, Reads.of_own ho⟩

set_option maxRecDepth 100000 in
set_option maxHeartbeats 4000000 in
theorem ints_same (l : List Int) (A A' : Option Addr) (n c c' B B' : Nat) (w : World) (hl : l.length = n) (hn : n ≤ 1000) (hr : Reads w B 1 A n (l.map (Value.int .i64))) (hr' : Reads w B' 1 A' n (l.map (Value.int .i64))) (hB : B ≤ w.heap.size) (hB' : B' ≤ w.heap.size) :
    Calls Try.prog 15 #[.slice A n c, .slice A' n c'] w fun e w' => e = .returned (.bool true) ∧ Mod nowhere w w' := by
  have HR := hide hr
  have HR' := hide hr'
  have HL := hide hl
  clear hr hr' hl
  go_enter Try.func15, Try.ntmps15
  go_wp2
  go_loopw [5] (fun s5 wx => ∃ k : Nat, s5 = .int .i64 k ∧ k ≤ n ∧ Mod nowhere w wx) (fun s5 _ => (2000 - (intOf s5)).toNat)
  case atStart => exact ⟨0, rfl, Nat.zero_le _, (by repeat (first | with_reducible exact Mod.refl _ _ | with_reducible assumption | with_reducible refine Mod.alloc ?_ _ | with_reducible refine Mod.drew ?_ | with_reducible refine Mod.drewN ?_ _ | with_reducible refine Mod.setCell ?_ (by first | exact .inl rfl | (left; (try unfold from_); show _ ≤ _; first | omega | (simp; done) | (simp; omega)) | (right; first | omega | (simp; done) | (simp; omega))) _ | with_reducible refine Mod.call0 ?_ (by with_reducible assumption) | with_reducible refine Mod.call ?_ (by with_reducible assumption) (by first | (rintro _ rfl; first | exact .inl rfl | (right; (first | omega | (simp; done) | (simp; omega)))) | (rintro _ (rfl | rfl) <;> (right; (first | omega | (simp; done) | (simp; omega)))))))⟩
  case round =>
    obtain ⟨k, rfl, hk, hm⟩ := hrel
    have hsz := hm.size
    by_cases hlt : k < n
    · have hx' : l[k]? = some (l[k]'(by have := HL.out; omega)) := List.getElem?_eq_getElem (by have := HL.out; omega)
      generalize l[k]'(by have := HL.out; omega) = x at hx'
      obtain ⟨b, o, rfl, hbl, hcell⟩ := HR.out.form (by omega) (by omega)
      obtain ⟨b', o', rfl, hbl', hcell'⟩ := HR'.out.form (by omega) (by omega)
      have c1 := (hm.cell (o + k) (by omega) id).trans (hcell k (.int .i64 x) (by rw [List.getElem?_map, hx']; rfl))
      have c2 := (hm.cell (o' + k) (by omega) id).trans (hcell' k (.int .i64 x) (by rw [List.getElem?_map, hx']; rfl))
      clear hx' hcell hcell'
      go_wp2
      go_region
      all_goals (go_wp2; go_roundw)
      all_goals first | exact ⟨k + 1, by go_num, by omega, (by repeat (first | with_reducible exact Mod.refl _ _ | with_reducible assumption | with_reducible refine Mod.alloc ?_ _ | with_reducible refine Mod.drew ?_ | with_reducible refine Mod.drewN ?_ _ | with_reducible refine Mod.setCell ?_ (by first | exact .inl rfl | (left; (try unfold from_); show _ ≤ _; first | omega | (simp; done) | (simp; omega)) | (right; first | omega | (simp; done) | (simp; omega))) _ | with_reducible refine Mod.call0 ?_ (by with_reducible assumption) | with_reducible refine Mod.call ?_ (by with_reducible assumption) (by first | (rintro _ rfl; first | exact .inl rfl | (right; (first | omega | (simp; done) | (simp; omega)))) | (rintro _ (rfl | rfl) <;> (right; (first | omega | (simp; done) | (simp; omega)))))))⟩ | (simp [intOf] <;> omega)
    · go_wp2
      go_ret
      exact ⟨rfl, hm⟩
end Go.Proofs.Ytffeidjalphemaa
