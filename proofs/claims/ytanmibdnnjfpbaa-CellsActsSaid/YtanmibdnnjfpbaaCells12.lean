/- The law CellsStand, walked. -/
import Derived.Test.YtanmibdnnjfpbaaCells11
import Derived.Laws.StructEq
namespace Go.Proofs.Ytanmibdnnjfpbaa
open Go.RowKit

theorem ainfo_int : (Try.prog.info? 3).map (fun i => (i.zero, i.size, i.bytes)) = some (some (.int .i64 0), 1, 8) := by kernel_rfl
theorem LocRow.blk {w : World} {H : Nat} {E : TypeId} {size : Nat} {v : Value} {n : Nat} {cs : List Value} (h : LocRow w H E size v n cs) : ∀ b, some b = v.ownBlock → H ≤ b ∧ ∃ cur, Blk w b E cur := by
  intro b hb
  obtain ⟨A, cap, rfl, ho, hA⟩ := h
  rcases hA with ⟨rfl, rfl, rfl⟩ | ⟨q, rfl, hq⟩
  · simp [Value.ownBlock] at hb
  · simp [Value.ownBlock] at hb
    subst hb
    exact ⟨hq, ownsRow_blk ho⟩
theorem LocRow.far {S : Nat → Prop} {w w' : World} {H : Nat} {E : TypeId} {size : Nat} {v : Value} {n : Nat} {cs : List Value} (h : LocRow w H E size v n cs) (hm : Mod S w w') (hS : ∀ b, some b = v.ownBlock → ¬ S b) : LocRow w' H E size v n cs := by
  obtain ⟨A, cap, rfl, ho, hA⟩ := h
  refine ⟨A, cap, rfl, ?_, hA⟩
  rcases hA with ⟨rfl, rfl, rfl⟩ | ⟨q, rfl, hq⟩
  · exact ⟨ho.1, .inl ⟨rfl, rfl⟩⟩
  · exact owns_keep ho hm (hS q rfl)
/-- An append of one thing to a slice that a variable holds. -/
theorem wpList_append_loc {ops : Array Oper} {rest : List Oper} {o : Oper} {a : Act} {Q : Exit → Act → World → Prop} {w : World} (hgd : o.guard = none) (s x : Operand) (t : TypeId)
    (ho : o.op = .call { callee := .builtin .append, args := #[s, x], argTypes := #[t, t] }) (E : TypeId) (i : TypeInfo) (z : Value) (ht : Try.prog.underlying t = some (.slice E)) (hi : Try.prog.info? E = some i) (hz : i.zero = some z)
    (hsize : i.size = 1) (hby : i.bytes = 8) (hzs : z.cells.size = 1) (H : Nat) (v : Value) (n : Nat) (xs : List Value) (hs : a.eval s = v) (hown : LocRow w H E 1 v n xs) (g : Nat) (u : Value) (hx : a.eval x = .slice (some ⟨g, 0, none⟩) 1 1)
    (hb : Blk w g E #[u]) (hu : u.oneCell' = true) (hn : n ≤ 100000) (hH : H ≤ w.heap.size)
    (h : ∀ q cap w', LocRow w' H E 1 (.slice (some ⟨q, 0, none⟩) (n + 1) cap) (n + 1) (xs ++ [u]) → Mod (fun b => some b = v.ownBlock) w w' → (some q = v.ownBlock ∨ w.heap.size ≤ q) → H ≤ q → q < w'.heap.size →
      wpList Try.prog ops Q rest (a.put o.dst (.slice (some ⟨q, 0, none⟩) (n + 1) cap)) w') : wpList Try.prog ops Q (o :: rest) a w := by
  obtain ⟨A, cap, rfl, hrow, hA⟩ := hown
  refine wpList_append_lies _ hgd s x t ho 0 E i z 1 8 ht hi hz hsize hby hzs (by omega) _ n xs hs hrow ⟨g, 0, none⟩ 1 1 [u] hx rfl (World.news_of_block (B := g) (cs := #[u]) (t := E) (fr := (0, 0)) hb) (by simp [hu]) (by omega) (by unfold maxLen; omega) (by omega) (Nat.zero_le _) w.heap.size rfl ?_
  intro q cap1 w' hown hgrow hat hlt
  have hq : (some q = (Value.slice A n cap).ownBlock ∨ w.heap.size ≤ q) := by
    rcases hat with hh | hh
    · exact .inl hh.symm
    · exact .inr (by omega)
  have hH' : H ≤ q := by
    rcases hq with hh | hh
    · rcases hA with ⟨rfl, rfl, rfl⟩ | ⟨q', rfl, hq'⟩
      · simp [Value.ownBlock] at hh
      · simp [Value.ownBlock] at hh; omega
    · omega
  exact h q cap1 w' ⟨_, _, rfl, hown, .inr ⟨q, rfl, hH'⟩⟩ (Mod.of_grown hgrow) hq hH' hlt
theorem LocRow.form {w : World} {H : Nat} {E : TypeId} {v : Value} {n : Nat} {cs : List Value} (h : LocRow w H E 1 v n cs) (hn : 0 < n) : ∃ q cap, v = .slice (some ⟨q, 0, none⟩) n cap ∧ H ≤ q ∧ q < w.heap.size ∧ ∀ i u, cs[i]? = some u → w.cell? ⟨q, i, none⟩ = some u := by
  obtain ⟨A, cap, rfl, ho, hA⟩ := h
  rcases hA with ⟨rfl, rfl, rfl⟩ | ⟨q, rfl, hq⟩
  · omega
  · obtain ⟨cur, hc⟩ := ownsRow_blk ho
    refine ⟨q, cap, rfl, hq, hc.lt, fun i u hu => ?_⟩
    have hlt := (List.getElem?_eq_some_iff.1 hu).1
    rw [ho.cellAt i (by rw [← ho.1]; exact hlt)]
    exact hu
def atv (n k : Nat) : List Value := (List.range k).map fun (i : Nat) => .int .i64 (2 * (n : Int) + 1 + 2 * (i : Int))
def lcv (n k : Nat) : List Value := (List.range k).map fun (i : Nat) => .int .i64 (2 * (n : Int) + 2 + 2 * (i : Int))
theorem atv_succ (n k : Nat) : atv n (k + 1) = atv n k ++ [.int .i64 (2 * (n : Int) + 1 + 2 * (k : Int))] := by unfold atv; rw [List.range_succ, List.map_append]; rfl
theorem lcv_succ (n k : Nat) : lcv n (k + 1) = lcv n k ++ [.int .i64 (2 * (n : Int) + 2 + 2 * (k : Int))] := by unfold lcv; rw [List.range_succ, List.map_append]; rfl
theorem atv_at (n k i : Nat) (h : i < k) : (atv n k)[i]? = some (.int .i64 (2 * (n : Int) + 1 + 2 * (i : Int))) := by unfold atv; rw [List.getElem?_map, List.getElem?_range h]; rfl
theorem lcv_at (n k i : Nat) (h : i < k) : (lcv n k)[i]? = some (.int .i64 (2 * (n : Int) + 2 + 2 * (i : Int))) := by unfold lcv; rw [List.getElem?_map, List.getElem?_range h]; rfl
def oldv (n : Nat) : Nat → Int
  | 0 => 0
  | i + 1 => 2 * (n : Int) + 1 + 2 * (i : Int)
def StO (l3 : List Int) (n k : Nat) (cs : List Value) : Prop := ∀ i x, i < k → l3[i]? = some x →
  Rec9 cs (2 * n + 1 + 2 * i) 1 x 0 0 0 0 0 0 0 ∧ Rec9 cs (2 * n + 2 + 2 * i) 2 0 (2 * (n : Int)) (oldv n i) (2 * (n : Int) + 1 + 2 * (i : Int)) 0 0 0 0
theorem StO.more {l3 : List Int} {n k : Nat} {cs cs' : List Value} (h : StO l3 n k cs) : StO l3 n k (cs ++ cs') := fun i x hi hx => ⟨(h i x hi hx).1.more, (h i x hi hx).2.more⟩
theorem StO.snoc {l3 : List Int} {n k : Nat} {cs : List Value} {x : Int} (h : StO l3 n k cs) (hx : l3[k]? = some x) (h1 : Rec9 cs (2 * n + 1 + 2 * k) 1 x 0 0 0 0 0 0 0) (h2 : Rec9 cs (2 * n + 2 + 2 * k) 2 0 (2 * (n : Int)) (oldv n k) (2 * (n : Int) + 1 + 2 * (k : Int)) 0 0 0 0) : StO l3 n (k + 1) cs := by
  intro i y hi hy
  by_cases hik : i < k
  · exact h i y hik hy
  · obtain rfl : i = k := by omega
    rw [hx] at hy
    obtain rfl := Option.some.inj hy
    exact ⟨h1, h2⟩
/-- The version that the next locator takes for its old one. -/
theorem StO.old {l l3 : List Int} {n k : Nat} {cs : List Value} (h : StO l3 n k cs) (hF : First l n cs) (hl : l.length = n) (h1 : 1 ≤ n) (hk : k ≤ l3.length) : ∃ (o : Nat) (p : Int), oldv n k = (o : Int) ∧ o < 2 * n + 1 + 2 * k ∧ Rec9 cs o 1 p 0 0 0 0 0 0 0 := by
  cases k with
  | zero => exact ⟨0, _, rfl, by omega, First.ver hF (i := 0) (by omega) (List.getElem?_eq_getElem (by omega))⟩
  | succ k => exact ⟨2 * n + 1 + 2 * k, _, by show (2 * (n : Int) + 1 + 2 * (k : Int)) = _; omega, by omega, (h k _ (by omega) (List.getElem?_eq_getElem (by omega))).1⟩

end Go.Proofs.Ytanmibdnnjfpbaa
