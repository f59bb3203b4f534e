/- All descriptors of a table at once. -/
import Derived.Test.YtanmibdnnjfpbaaDesc5
namespace Go.Proofs.Ytanmibdnnjfpbaa
open Go.RowKit

def upd {α : Type} (f : Nat → α) (i : Nat) (v : α) : Nat → α := fun j => if j = i then v else f j
theorem upd_same {α : Type} (f : Nat → α) (i : Nat) (v : α) : upd f i v i = v := if_pos rfl
theorem upd_other {α : Type} (f : Nat → α) {i j : Nat} (v : α) (h : j ≠ i) : upd f i v j = f j := if_neg h
def famMap (k : Nat) (D : Nat → Nat) (z : Int) : Option Nat := if 0 ≤ z ∧ z < k then some (D z.toNat) else none
theorem famMap_at {k i : Nat} {D : Nat → Nat} (h : i < k) : famMap k D (i : Int) = some (D i) := by
  unfold famMap
  rw [if_pos (by omega)]
  simp
theorem IsPMap.congr {w : World} {b n : Nat} {M M' : Int → Option Nat} (h : IsPMap w b n M) (e : ∀ i, M i = M' i) : IsPMap w b n M' := by
  obtain ⟨D, h1, h2, h3⟩ := h
  exact ⟨D, h1, h2, fun i => by rw [h3 i, e i]⟩

theorem Own.rowBlk {w : World} {tA E : TypeId} {mk : Value → Array Value} {size g r n : Nat} {cs : List Value} (h : Own w tA mk E size g r n cs) (hne : r ≠ g) : ∃ cur, Blk w r E cur := by
  obtain ⟨A, cap, hb, hl, h⟩ := h
  rcases h with ⟨_, _, _, h⟩ | ⟨cur, _, _, h, _⟩
  · exact absurd h hne
  · exact ⟨cur, h⟩

structure Fam (w : World) (B t a r m k : Nat) (cs : List Value) (D S : Nat → Nat) (P W St : Nat → Int) : Prop where
  tab : IsTab w t a m
  map : IsPMap w m k (famMap k D)
  arn : Arn_rec w a r k 64 cs
  wds : ∀ i, i < k → IsWds w (D i) (S i) (P i) (W i)
  wrd : ∀ i, i < k → ∃ acc, IsWord w (S i) (St i) acc
  dd : ∀ i j, i < k → j < k → i ≠ j → D i ≠ D j ∧ S i ≠ S j
  ds : ∀ i j, i < k → j < k → D i ≠ S j
  ap : ∀ i, i < k → D i ≠ t ∧ D i ≠ m ∧ D i ≠ a ∧ D i ≠ r ∧ S i ≠ t ∧ S i ≠ m ∧ S i ≠ a ∧ S i ≠ r
  bs : ∀ i, i < k → B ≤ D i ∧ B ≤ S i
  ne : t ≠ a ∧ t ≠ r ∧ t ≠ m ∧ m ≠ a ∧ m ≠ r
  old : B ≤ t ∧ B ≤ a ∧ B ≤ r ∧ B ≤ m

section
variable {w w' : World} {B t a r m k : Nat} {cs : List Value} {D S : Nat → Nat} {P W St : Nat → Int}
theorem Fam.keep0 (h : Fam w B t a r m k cs D S P W St) (hm : Mod nowhere w w') : Fam w' B t a r m k cs D S P W St :=
  { h with tab := h.tab.keep0 hm, map := h.map.keep0 hm, arn := Own.keep0 h.arn hm, wds := fun i hi => Blk.keep0 (h.wds i hi) hm, wrd := fun i hi => (h.wrd i hi).elim fun acc ha => ⟨acc, Blk.keep0 ha hm⟩ }
theorem Fam.touch (h : Fam w B t a r m k cs D S P W St) {i : Nat} (hi : i < k) (hm : Mod (two (S i) (D i)) w w') {p q st acc : Int} (h1 : IsWds w' (D i) (S i) p q) (h2 : IsWord w' (S i) st acc) :
    Fam w' B t a r m k cs D S (upd P i p) (upd W i q) (upd St i st) := by
  have hap := h.ap i hi
  refine { h with tab := h.tab.keep hm ?_, map := h.map.keep hm ?_, arn := Own.keep h.arn hm ?_ ?_, wds := fun j hj => ?_, wrd := fun j hj => ?_ }
  · rintro (e | e) <;> omega
  · rintro (e | e) <;> omega
  · rintro (e | e) <;> omega
  · rintro (e | e) <;> omega
  · by_cases hij : j = i
    · subst hij; rw [upd_same, upd_same]; exact h1
    · rw [upd_other _ _ hij, upd_other _ _ hij]
      have := h.dd j i hj hi hij
      have := h.ds j i hj hi
      exact Blk.keep (h.wds j hj) hm (by rintro (e | e) <;> omega)
  · by_cases hij : j = i
    · subst hij; rw [upd_same]; exact ⟨acc, h2⟩
    · rw [upd_other _ _ hij]
      obtain ⟨acc', ha⟩ := h.wrd j hj
      have := h.dd j i hj hi hij
      have := h.ds i j hi hj
      exact ⟨acc', Blk.keep ha hm (by rintro (e | e) <;> omega)⟩
set_option maxHeartbeats 2000000 in
theorem Fam.more (h : Fam w B t a r m k cs D S P W St) (_hB : B ≤ w.heap.size) {new : List Value} {prio : Int} (hp : BegPost w w' t a r m k k 64 cs new (famMap k D) prio) (hm : Mod (fun b => b = a ∨ b = r ∨ b = m) w w') :
    ∃ r' d s, Fam w' B t a r' m (k + 1) (cs ++ new) (upd D k d) (upd S k s) (upd P k prio) (upd W k 0) (upd St k 1) := by
  obtain ⟨⟨r', hr', hne, ha⟩, ht, d, s, acc, hm', hd, hs, c1, c2, c3⟩ := hp
  have l_t := h.tab.lt
  have l_m := h.map.lt
  have l_a := h.arn.lt
  have hne' := h.ne
  have hold := h.old
  have lD : ∀ i, i < k → D i < w.heap.size := fun i hi => (h.wds i hi).lt
  have lS : ∀ i, i < k → S i < w.heap.size := fun i hi => (h.wrd i hi).elim fun _ ha => ha.lt
  have hk : ∀ i, i < k + 1 → i ≠ k → i < k := fun i _ _ => by omega
  refine ⟨r', d, s, ?_⟩
  constructor
  · exact ht
  · refine hm'.congr fun z => ?_
    show (if z = (k : Int) then some d else famMap k D z) = famMap (k + 1) (upd D k d) z
    by_cases hz : z = k
    · subst hz
      rw [if_pos rfl, famMap_at (by omega), upd_same]
    · rw [if_neg hz]
      unfold famMap
      by_cases hz2 : 0 ≤ z ∧ z < k
      · rw [if_pos hz2, if_pos (by omega), upd_other _ _ (by omega)]
      · rw [if_neg hz2, if_neg (by omega)]
  · exact ha
  · intro i hi
    by_cases hik : i = k
    · subst hik; rw [upd_same, upd_same, upd_same, upd_same]; exact hd
    · rw [upd_other _ _ hik, upd_other _ _ hik, upd_other _ _ hik, upd_other _ _ hik]
      have := h.ap i (hk i hi hik)
      exact Blk.keep (h.wds i (hk i hi hik)) hm (by rintro (e | e | e) <;> omega)
  · intro i hi
    by_cases hik : i = k
    · subst hik; rw [upd_same, upd_same]; exact ⟨acc, hs⟩
    · rw [upd_other _ _ hik, upd_other _ _ hik]
      have := h.ap i (hk i hi hik)
      obtain ⟨acc', ha'⟩ := h.wrd i (hk i hi hik)
      exact ⟨acc', Blk.keep ha' hm (by rintro (e | e | e) <;> omega)⟩
  · intro i j hi hj hij
    by_cases hik : i = k
    · subst hik
      have := lD j (hk j hj (by omega))
      have := lS j (hk j hj (by omega))
      rw [upd_same, upd_same, upd_other _ _ (by omega), upd_other _ _ (by omega)]
      exact ⟨by omega, by omega⟩
    · have h1 := lD i (hk i hi hik)
      have h2 := lS i (hk i hi hik)
      rw [upd_other _ _ hik, upd_other _ _ hik]
      by_cases hjk : j = k
      · subst hjk; rw [upd_same, upd_same]; exact ⟨by omega, by omega⟩
      · rw [upd_other _ _ hjk, upd_other _ _ hjk]; exact h.dd i j (hk i hi hik) (hk j hj hjk) hij
  · intro i j hi hj
    by_cases hik : i = k
    · subst hik
      rw [upd_same]
      by_cases hjk : j = i
      · subst hjk; rw [upd_same]; exact c3
      · have := lS j (hk j hj hjk)
        rw [upd_other _ _ hjk]; omega
    · have h1 := lD i (hk i hi hik)
      rw [upd_other _ _ hik]
      by_cases hjk : j = k
      · subst hjk; rw [upd_same]; omega
      · rw [upd_other _ _ hjk]; exact h.ds i j (hk i hi hik) (hk j hj hjk)
  · intro i hi
    by_cases hik : i = k
    · subst hik
      have := ha.lt
      rw [upd_same, upd_same]
      refine ⟨by omega, by omega, by omega, ?_, by omega, by omega, by omega, ?_⟩
      · intro e; subst e; obtain ⟨cur, hc⟩ := Own.rowBlk ha hne; exact absurd rfl (Blk.ne_ hd hc (by decide))
      · intro e; subst e; obtain ⟨cur, hc⟩ := Own.rowBlk ha hne; exact absurd rfl (Blk.ne_ hs hc (by decide))
    · have h1 := lD i (hk i hi hik)
      have h2 := lS i (hk i hi hik)
      have h3 := h.ap i (hk i hi hik)
      rw [upd_other _ _ hik, upd_other _ _ hik]
      omega
  · intro i hi
    by_cases hik : i = k
    · subst hik; rw [upd_same, upd_same]; omega
    · rw [upd_other _ _ hik, upd_other _ _ hik]; exact h.bs i (hk i hi hik)
  · omega
  · omega
end
end Go.Proofs.Ytanmibdnnjfpbaa
