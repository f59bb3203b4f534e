/- A block with a slice in it that the block alone owns (in whatever place): what it owns, and what keeps it. -/
import Derived.Test.YtanmibdnnjfpbaaB
import Derived.Deep.AppendLies
namespace Go.Proofs.Ytanmibdnnjfpbaa
open Go.RowKit

theorem Mod.of_grown {w w' : World} {row : Option Nat} (h : w.grownBy w' row) : Mod (fun b => some b = row) w w' :=
  ⟨h.os, h.tape, h.output, h.size, fun k hk hn => h.block k hk hn⟩
theorem owns_keep {S : Nat → Prop} {w w' : World} {E : TypeId} {size q n cap : Nat} {cs : List Value} (h : w.ownsRow 0 E size (.slice (some ⟨q, 0, none⟩) n cap) n cs) (hm : Mod S w w') (hq : ¬ S q) :
    w'.ownsRow 0 E size (.slice (some ⟨q, 0, none⟩) n cap) n cs := by
  obtain ⟨hl, h⟩ := h
  refine ⟨hl, ?_⟩
  rcases h with ⟨h, _⟩ | ⟨q', cap', cur, h, h2, h3, h4⟩
  · cases h
  · refine .inr ⟨q', cap', cur, h, h2, ?_, h4⟩
    injection h with h1 _ _
    obtain rfl : q = q' := by injection h1 with h1; injection h1
    exact Blk.keep (cs := cur) h3 hm hq
theorem owns_keep0 {w w' : World} {E : TypeId} {size n : Nat} {v : Value} {cs : List Value} (h : w.ownsRow 0 E size v n cs) (hm : Mod nowhere w w') : w'.ownsRow 0 E size v n cs := by
  obtain ⟨hl, h⟩ := h
  refine ⟨hl, ?_⟩
  rcases h with h | ⟨q', cap', cur, h, h2, h3, h4⟩
  · exact .inl h
  · exact .inr ⟨q', cap', cur, h, h2, Blk.keep0 (cs := cur) h3 hm, h4⟩

/-- Block g (type tA) is 'mk s', with a slice s of n things of type E (size cells each: cs) that lie in block r (g itself if s is nil). -/
def Own (w : World) (tA : TypeId) (mk : Value → Array Value) (E : TypeId) (size g r n : Nat) (cs : List Value) : Prop :=
  ∃ A cap, Blk w g tA (mk (.slice A n cap)) ∧ cs.length = n * size ∧
    ((n = 0 ∧ A = none ∧ cap = 0 ∧ r = g) ∨ ∃ cur, A = some ⟨r, 0, none⟩ ∧ r ≠ g ∧ Blk w r E cur ∧ n ≤ cap ∧ cap ≤ maxLen ∧ cur.size = cap * size ∧ cur.toList.take (n * size) = cs)

/-- Block g, and block r. -/
abbrev two (g r : Nat) (b : Nat) : Prop := b = g ∨ b = r
theorem not_two {g r b : Nat} (h1 : b ≠ g) (h2 : b ≠ r) : ¬ two g r b := fun h => h.elim h1 h2

/-- What is behind a thing that was put: the row may lie elsewhere now, in a new block. -/
def PutOwn (w w' : World) (tA : TypeId) (mk : Value → Array Value) (E : TypeId) (size g r n : Nat) (cs : List Value) : Prop :=
  ∃ r', (r' = r ∨ w.heap.size ≤ r') ∧ r' ≠ g ∧ Own w' tA mk E size g r' n cs

section
variable {S : Nat → Prop} {w w' : World} {tA E : TypeId} {mk : Value → Array Value} {size g r n : Nat} {cs : List Value}
theorem Own.lt (h : Own w tA mk E size g r n cs) : g < w.heap.size ∧ r < w.heap.size := by
  obtain ⟨A, cap, hb, hl, h⟩ := h
  refine ⟨hb.lt, ?_⟩
  rcases h with ⟨_, _, _, rfl⟩ | ⟨cur, _, _, hr, _⟩
  · exact hb.lt
  · exact hr.lt
theorem Own.keep (h : Own w tA mk E size g r n cs) (hm : Mod S w w') (hg : ¬ S g) (hr : ¬ S r) : Own w' tA mk E size g r n cs := by
  obtain ⟨A, cap, hb, hl, h⟩ := h
  refine ⟨A, cap, hb.keep hm hg, hl, ?_⟩
  rcases h with h | ⟨cur, h1, h2, h3, h4⟩
  · exact .inl h
  · exact .inr ⟨cur, h1, h2, h3.keep hm hr, h4⟩
theorem Own.keep0 (h : Own w tA mk E size g r n cs) (hm : Mod nowhere w w') : Own w' tA mk E size g r n cs := h.keep hm (fun x => x) (fun x => x)
theorem Own.drew (h : Own w tA mk E size g r n cs) : Own w.drew tA mk E size g r n cs := h
theorem Own.drewN (h : Own w tA mk E size g r n cs) (k : Nat) : Own (w.drewN k) tA mk E size g r n cs := h
theorem Own.alloc (h : Own w tA mk E size g r n cs) (o : Obj) : Own (w.alloc o) tA mk E size g r n cs := h.keep0 ((Mod.refl _ _).alloc o)
theorem Own.far (h : Own w tA mk E size g r n cs) {p : Addr} (hg : g ≠ p.block) (hr : r ≠ p.block) (u : Value) : Own (w.setCell p u) tA mk E size g r n cs :=
  h.keep (S := fun b => b = p.block) (Mod.setCell (S := fun b => b = p.block) (Mod.refl _ _) (.inl rfl) u) hg hr
theorem Own.start (hb : Blk w g tA (mk (.slice none 0 0))) : Own w tA mk E size g g 0 [] :=
  ⟨none, 0, hb, by simp, .inl ⟨rfl, rfl, rfl, rfl⟩⟩
theorem Own.open_ (h : Own w tA mk E size g r n cs) : ∃ A cap, Blk w g tA (mk (.slice A n cap)) ∧ w.ownsRow 0 E size (.slice A n cap) n cs ∧ ((n = 0 ∧ A = none ∧ cap = 0 ∧ r = g) ∨ (A = some ⟨r, 0, none⟩ ∧ r ≠ g)) := by
  obtain ⟨A, cap, hb, hl, h⟩ := h
  refine ⟨A, cap, hb, ⟨hl, ?_⟩, ?_⟩
  · rcases h with ⟨rfl, rfl, rfl, _⟩ | ⟨cur, rfl, h2, h3, h4, h5, h6, h7⟩
    · exact .inl ⟨rfl, rfl⟩
    · exact .inr ⟨r, cap, cur, rfl, Nat.zero_le _, h3, h4, h5, h6, h7⟩
  · rcases h with h | ⟨cur, h1, h2, _⟩
    · exact .inl h
    · exact .inr ⟨h1, h2⟩
theorem Own.close {q cap : Nat} (hb : Blk w g tA (mk (.slice (some ⟨q, 0, none⟩) n cap))) (ho : w.ownsRow 0 E size (.slice (some ⟨q, 0, none⟩) n cap) n cs) (hne : q ≠ g) : Own w tA mk E size g q n cs := by
  refine ⟨_, _, hb, ho.1, .inr ?_⟩
  rcases ho.2 with ⟨h, _⟩ | ⟨q', cap', cur, h, _, h3, h4, h5, h6, h7⟩
  · cases h
  · injection h with h1 _ h2
    obtain rfl : q = q' := by injection h1 with h1; injection h1
    obtain rfl : cap = cap' := by assumption
    exact ⟨cur, rfl, hne, h3, h4, h5, h6, h7⟩
theorem Own.len (h : Own w tA mk E size g r n cs) : cs.length = n * size := by
  obtain ⟨A, cap, hb, hl, h⟩ := h
  exact hl
/-- The cells of a row that is not empty. -/
theorem Own.cells (h : Own w tA mk E size g r n cs) (hn : 0 < n) : ∃ cap, Blk w g tA (mk (.slice (some ⟨r, 0, none⟩) n cap)) ∧ ∀ i, i < n * size → w.cell? ⟨r, i, none⟩ = cs[i]? := by
  obtain ⟨A, cap, hb, ho, h⟩ := h.open_
  rcases h with ⟨h, _⟩ | ⟨rfl, hne⟩
  · omega
  · exact ⟨cap, hb, fun i hi => ho.cellAt i hi⟩
/-- Another owner of the same row and another place, in the same world: what a store into block g makes of it. -/
theorem Own.remake {mk' : Value → Array Value} (h : Own w tA mk E size g r n cs) (hm : Mod (· = g) w w') (hb : ∀ v, Blk w g tA (mk v) → Blk w' g tA (mk' v)) : Own w' tA mk' E size g r n cs := by
  obtain ⟨A, cap, hb0, hl, h⟩ := h
  refine ⟨A, cap, hb _ hb0, hl, ?_⟩
  rcases h with h | ⟨cur, h1, h2, h3, h4⟩
  · exact .inl h
  · exact .inr ⟨cur, h1, h2, h3.keep hm h2, h4⟩

/-- Behind an append to the row, ahead of the store of the new slice. -/
theorem put_mid {w0 w1 : World} {q H : Nat} {A : Option Addr} {cap : Nat} (hb : Blk w g tA (mk (.slice A n cap))) (h0 : Mod nowhere w w0)
    (hr : (n = 0 ∧ A = none ∧ cap = 0 ∧ r = g) ∨ (A = some ⟨r, 0, none⟩ ∧ r ≠ g)) (hgrow : w0.grownBy w1 (Value.slice A n cap).ownBlock) (hat : (Value.slice A n cap).ownBlock = some q ∨ q = H) (hH : w.heap.size ≤ H) :
    q ≠ g ∧ (q = r ∨ w.heap.size ≤ q) ∧ Blk w1 g tA (mk (.slice A n cap)) ∧ Mod (· = r) w w1 ∧ Mod (· = r) w0 w1 := by
  have hg := hb.lt
  have hown : ∀ i, some i = (Value.slice A n cap).ownBlock → i = r ∧ i ≠ g := by
    intro i hi
    rcases hr with ⟨_, rfl, _, _⟩ | ⟨rfl, hne⟩
    · simp [Value.ownBlock] at hi
    · simp [Value.ownBlock] at hi
      exact ⟨hi, by rw [hi]; exact hne⟩
  have hm : Mod (fun b => some b = (Value.slice A n cap).ownBlock) w w1 := (h0.mono (fun _ h => h.elim)).trans (Mod.of_grown hgrow)
  refine ⟨?_, ?_, hb.keep hm (fun h => (hown g h).2 rfl), hm.mono fun i hi => (hown i hi).1, (Mod.of_grown hgrow).mono fun i hi => (hown i hi).1⟩
  · rcases hat with hat | rfl
    · exact (hown q hat.symm).2
    · omega
  · rcases hat with hat | rfl
    · exact .inl (hown q hat.symm).1
    · exact .inr hH
theorem put_end {w1 w2 : World} {q cap : Nat} (hne : q ≠ g) (hq : q = r ∨ w.heap.size ≤ q) (hm : Mod (· = r) w w1) (hm2 : Mod (· = g) w1 w2)
    (hb : Blk w2 g tA (mk (.slice (some ⟨q, 0, none⟩) n cap))) (ho : w1.ownsRow 0 E size (.slice (some ⟨q, 0, none⟩) n cap) n cs) : PutOwn w w2 tA mk E size g r n cs ∧ Mod (two g r) w w2 :=
  ⟨⟨q, hq, hne, Own.close hb (owns_keep ho hm2 hne) hne⟩, (hm.mono fun _ hi => .inr hi).trans (hm2.mono fun _ hi => .inl hi)⟩
end

theorem owns_keep' {S : Nat → Prop} {w w' : World} {E : TypeId} {size r g n cap : Nat} {A : Option Addr} {cs : List Value} (h : w.ownsRow 0 E size (.slice A n cap) n cs) (hr : (n = 0 ∧ A = none ∧ cap = 0 ∧ r = g) ∨ (A = some ⟨r, 0, none⟩ ∧ r ≠ g))
    (hm : Mod S w w') (hq : ¬ S r) : w'.ownsRow 0 E size (.slice A n cap) n cs := by
  rcases hr with ⟨rfl, rfl, rfl, rfl⟩ | ⟨rfl, hne⟩
  · refine ⟨h.1, .inl ⟨rfl, rfl⟩⟩
  · exact owns_keep h hm hq

theorem Blk.same {w : World} {g : Nat} {t t' : TypeId} {cs cs' : Array Value} (h : Blk w g t cs) (h' : Blk w g t' cs') : cs = cs' := by
  unfold Blk at h h'
  rw [h] at h'
  injection h' with h'
  injection h' with h' _
theorem Blk.same1 {w : World} {g : Nat} {t t' : TypeId} {a b b' : Value} (h : Blk w g t #[a, b]) (h' : Blk w g t' #[a, b']) : b = b' := by
  have := h.same h'
  simpa using this

/-- Block g is an arena. -/
abbrev Arn (w : World) (tA E : TypeId) (size g r n : Nat) (most : Int) (cs : List Value) : Prop := Own w tA (fun s => #[s, .int .i64 most]) E size g r n cs
abbrev PutArn (w w' : World) (tA E : TypeId) (size g r n : Nat) (most : Int) (cs : List Value) : Prop := PutOwn w w' tA (fun s => #[s, .int .i64 most]) E size g r n cs
theorem Arn.new (w : World) (tA E : TypeId) (size : Nat) (most : Int) : Arn (w.alloc (.cells #[.slice none 0 0, .int .i64 most] tA)) tA E size w.heap.size w.heap.size 0 most [] :=
  Own.start (Blk.new _ _ _)
end Go.Proofs.Ytanmibdnnjfpbaa
