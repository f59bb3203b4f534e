/- An arena, a table and cells of it: all together, and what keeps them. -/
import Derived.Test.YtanmibdnnjfpbaaCells5
namespace Go.Proofs.Ytanmibdnnjfpbaa
open Go.RowKit

/-- What stays as it is behind New. -/
structure KD where
  c : Nat
  a : Nat
  rc : Nat
  k : Nat
  t : Nat
  m : Nat
  most : Int
  ws : List Value
  s : Nat → Nat

structure Sys (w : World) (B : Nat) (K : KD) (r N : Nat) (cs : List Value) (v : Nat → Nat) (nd : Nat) (M : Int → Option Nat) (q : Int → Nat) (st : Int → Int) : Prop where
  cf : CF w B K.c K.a K.rc r K.k N K.most K.ws cs K.s v
  tab : IsTab w K.t K.a K.m
  map : IsPMap w K.m nd M
  dsc : ∀ i d, M i = some d → ∃ p x, IsWds w d (q i) p x
  dst : ∀ i d, M i = some d → ∃ acc, IsWord w (q i) (st i) acc
  non : ∀ i, M i = none → st i = 0
  qq : ∀ i j d d', M i = some d → M j = some d' → i ≠ j → q i ≠ q j
  sq : ∀ i j d, i < K.k → M j = some d → K.s i ≠ q j
  bd : ∀ i d, M i = some d → B ≤ d ∧ B ≤ q i
  old : B ≤ K.a ∧ B ≤ r ∧ B ≤ K.t ∧ B ≤ K.m
  le : nd ≤ N
  k8 : K.k ≤ 8
  m4 : K.most ≤ 4096
  fit : (N : Int) ≤ K.most

def In (K : KD) (r : Nat) (M : Int → Option Nat) (q : Int → Nat) (b : Nat) : Prop :=
  b = K.c ∨ b = K.a ∨ b = K.rc ∨ b = r ∨ b = K.t ∨ b = K.m ∨ (∃ i, i < K.k ∧ b = K.s i) ∨ ∃ i d, M i = some d ∧ (b = d ∨ b = q i)

theorem IsPMap.ne_blk {w : World} {b n g : Nat} {M : Int → Option Nat} {t : TypeId} {cs : Array Value} (h : IsPMap w b n M) (hb : Blk w g t cs) : b ≠ g := by
  rintro rfl
  obtain ⟨D, ⟨es, clock, h1, -⟩, -⟩ := h
  unfold Blk at hb
  rw [hb] at h1
  injection h1 with h1
  cases h1

section
variable {w w' : World} {B r N nd : Nat} {K : KD} {cs : List Value} {v : Nat → Nat} {M : Int → Option Nat} {q : Int → Nat} {st : Int → Int}
theorem Sys.lt (h : Sys w B K r N cs v nd M q st) {b : Nat} (hb : In K r M q b) : b < w.heap.size := by
  have h1 := h.cf.cls.lt
  have h2 := h.cf.arn.lt
  have h3 := h.tab.lt
  have h4 := h.map.lt
  rcases hb with rfl | rfl | rfl | rfl | rfl | rfl | ⟨i, hi, rfl⟩ | ⟨i, d, hd, rfl | rfl⟩
  · exact h1.1
  · exact h2.1
  · exact h1.2
  · exact h2.2
  · exact h3
  · exact h4
  · exact h.cf.lts hi
  · obtain ⟨p, x, hb⟩ := h.dsc i _ hd; exact hb.lt
  · obtain ⟨acc, hb⟩ := h.dst i _ hd; exact hb.lt
theorem Sys.ge (h : Sys w B K r N cs v nd M q st) {b : Nat} (hb : In K r M q b) : B ≤ b := by
  have h1 := h.cf.old
  have h2 := h.old
  rcases hb with rfl | rfl | rfl | rfl | rfl | rfl | ⟨i, hi, rfl⟩ | ⟨i, d, hd, rfl | rfl⟩
  · exact h1.1
  · exact h2.1
  · exact h1.2
  · exact h2.2.1
  · exact h2.2.2.1
  · exact h2.2.2.2
  · exact h.cf.bs i hi
  · exact (h.bd i _ hd).1
  · exact (h.bd i _ hd).2
/-- A block of another type than the arena's, its row's, the cells' and their row's, the map's, is none of them. -/
theorem Sys.other (h : Sys w B K r N cs v nd M q st) {b : Nat} {ty : TypeId} {xs : Array Value} (hb : Blk w b ty xs) (h1 : ty ≠ 87) (h2 : ty ≠ 45) (h3 : ty ≠ 68) (h4 : ty ≠ 71) :
    b ≠ K.c ∧ b ≠ K.a ∧ b ≠ K.rc ∧ b ≠ r ∧ b ≠ K.m := by
  have ha : b ≠ K.a := by obtain ⟨A, cap, hx, -⟩ := h.cf.arn; exact Blk.ne_ hb hx h1
  have hc : b ≠ K.c := by obtain ⟨A, cap, hx, -⟩ := h.cf.cls; exact Blk.ne_ hb hx h3
  refine ⟨hc, ha, ?_, ?_, fun e => h.map.ne_blk hb e.symm⟩
  · by_cases e : K.rc = K.c
    · rw [e]; exact hc
    · obtain ⟨cur, hx⟩ := Own.rowBlk h.cf.cls e; exact Blk.ne_ hb hx h4
  · by_cases e : r = K.a
    · rw [e]; exact ha
    · obtain ⟨cur, hx⟩ := Own.rowBlk h.cf.arn e; exact Blk.ne_ hb hx h2
theorem Sys.notIn (h : Sys w B K r N cs v nd M q st) {b : Nat} {ty : TypeId} {xs : Array Value} (hb : Blk w b ty xs) (h1 : ty ≠ 87) (h2 : ty ≠ 45) (h3 : ty ≠ 68) (h4 : ty ≠ 71)
    (h5 : ty ≠ 74) (h6 : ty ≠ 78) (h7 : ty ≠ 91) : ¬ In K r M q b := by
  obtain ⟨e1, e2, e3, e4, e5⟩ := h.other hb h1 h2 h3 h4
  rintro (e | e | e | e | e | e | ⟨i, hi, e⟩ | ⟨i, d, hd, e | e⟩)
  · exact e1 e
  · exact e2 e
  · exact e3 e
  · exact e4 e
  · exact Blk.ne_ hb h.tab h5 e
  · exact e5 e
  · obtain ⟨acc, hx⟩ := h.cf.wrd i hi; exact Blk.ne_ hb hx h7 e
  · obtain ⟨p, x, hx⟩ := h.dsc i d hd; exact Blk.ne_ hb hx h6 e
  · obtain ⟨acc, hx⟩ := h.dst i d hd; exact Blk.ne_ hb hx h7 e
/-- A word of an object, or of a descriptor's status. -/
def Wd (K : KD) (M : Int → Option Nat) (q : Int → Nat) (b : Nat) : Prop := (∃ i, i < K.k ∧ b = K.s i) ∨ ∃ i d, M i = some d ∧ b = q i
theorem Wd.in_ {b : Nat} (h : Wd K M q b) : In K r M q b := by
  rcases h with h | ⟨i, d, hd, e⟩
  · exact .inr (.inr (.inr (.inr (.inr (.inr (.inl h))))))
  · exact .inr (.inr (.inr (.inr (.inr (.inr (.inr ⟨i, d, hd, .inr e⟩))))))
theorem Sys.wdBlk (h : Sys w B K r N cs v nd M q st) {b : Nat} (hb : Wd K M q b) : ∃ xs, Blk w b 91 xs := by
  rcases hb with ⟨i, hi, rfl⟩ | ⟨i, d, hd, rfl⟩
  · obtain ⟨acc, hx⟩ := h.cf.wrd i hi; exact ⟨_, hx⟩
  · obtain ⟨acc, hx⟩ := h.dst i d hd; exact ⟨_, hx⟩
theorem Sys.keep {S : Nat → Prop} (h : Sys w B K r N cs v nd M q st) (hm : Mod S w w') (hS : ∀ b, In K r M q b → ¬ S b) : Sys w' B K r N cs v nd M q st := by
  have e1 := hS K.c (.inl rfl)
  have e2 := hS K.a (.inr (.inl rfl))
  have e3 := hS K.rc (.inr (.inr (.inl rfl)))
  have e4 := hS r (.inr (.inr (.inr (.inl rfl))))
  have e5 := hS K.t (.inr (.inr (.inr (.inr (.inl rfl)))))
  have e6 := hS K.m (.inr (.inr (.inr (.inr (.inr (.inl rfl))))))
  refine { h with cf := { h.cf with arn := Own.keep h.cf.arn hm e2 e4, cls := Own.keep h.cf.cls hm e1 e3, wrd := fun i hi => ?_ }, tab := Blk.keep h.tab hm e5, map := h.map.keep hm e6, dsc := fun i d hd => ?_, dst := fun i d hd => ?_ }
  · obtain ⟨acc, hx⟩ := h.cf.wrd i hi
    exact ⟨acc, Blk.keep hx hm (hS _ (.inr (.inr (.inr (.inr (.inr (.inr (.inl ⟨i, hi, rfl⟩))))))))⟩
  · obtain ⟨p, x, hx⟩ := h.dsc i d hd
    exact ⟨p, x, Blk.keep hx hm (hS _ (.inr (.inr (.inr (.inr (.inr (.inr (.inr ⟨i, d, hd, .inl rfl⟩))))))))⟩
  · obtain ⟨acc, hx⟩ := h.dst i d hd
    exact ⟨acc, Blk.keep hx hm (hS _ (.inr (.inr (.inr (.inr (.inr (.inr (.inr ⟨i, d, hd, .inr rfl⟩))))))))⟩
theorem Sys.keep0 (h : Sys w B K r N cs v nd M q st) (hm : Mod nowhere w w') : Sys w' B K r N cs v nd M q st := h.keep hm fun _ _ x => x
/-- Words were touched. -/
theorem Sys.words {S : Nat → Prop} {v' : Nat → Nat} {st' : Int → Int} (h : Sys w B K r N cs v nd M q st) (hm : Mod S w w') (hS : ∀ b, S b → Wd K M q b)
    (hs : ∀ i, i < K.k → ((∃ acc, IsWord w' (K.s i) (v' i : Int) acc) ∨ (¬ S (K.s i) ∧ v' i = v i))) (hq : ∀ i d, M i = some d → ((∃ acc, IsWord w' (q i) (st' i) acc) ∨ (¬ S (q i) ∧ st' i = st i))) (hn : ∀ i, M i = none → st' i = 0) :
    Sys w' B K r N cs v' nd M q st' := by
  have key : ∀ b ty xs, Blk w b ty xs → ty ≠ 91 → ¬ S b := by
    intro b ty xs hb hne hSb
    obtain ⟨ys, hx⟩ := h.wdBlk (hS b hSb)
    exact Blk.ne_ hb hx hne rfl
  obtain ⟨A1, p1, hA, -⟩ := h.cf.arn
  obtain ⟨A2, p2, hC, -⟩ := h.cf.cls
  have e2 : ¬ S K.a := key _ _ _ hA (by decide)
  have e1 : ¬ S K.c := key _ _ _ hC (by decide)
  have e3 : ¬ S K.rc := by
    by_cases e : K.rc = K.c
    · rw [e]; exact e1
    · obtain ⟨cur, hx⟩ := Own.rowBlk h.cf.cls e; exact key _ _ _ hx (by decide)
  have e4 : ¬ S r := by
    by_cases e : r = K.a
    · rw [e]; exact e2
    · obtain ⟨cur, hx⟩ := Own.rowBlk h.cf.arn e; exact key _ _ _ hx (by decide)
  have e5 : ¬ S K.t := key _ _ _ h.tab (by decide)
  have e6 : ¬ S K.m := fun hSb => by
    obtain ⟨ys, hx⟩ := h.wdBlk (hS _ hSb)
    exact h.map.ne_blk hx rfl
  refine { h with cf := { h.cf with arn := Own.keep h.cf.arn hm e2 e4, cls := Own.keep h.cf.cls hm e1 e3, wrd := fun i hi => ?_ }, tab := Blk.keep h.tab hm e5, map := h.map.keep hm e6, dsc := fun i d hd => ?_, dst := fun i d hd => ?_, non := hn }
  · rcases hs i hi with hx | ⟨hx, e⟩
    · exact hx
    · rw [e]
      obtain ⟨acc, hy⟩ := h.cf.wrd i hi
      exact ⟨acc, Blk.keep hy hm hx⟩
  · obtain ⟨p, x, hx⟩ := h.dsc i d hd
    exact ⟨p, x, Blk.keep hx hm (key _ _ _ hx (by decide))⟩
  · rcases hq i d hd with hx | ⟨hx, e⟩
    · exact hx
    · rw [e]
      obtain ⟨acc, hy⟩ := h.dst i d hd
      exact ⟨acc, Blk.keep hy hm hx⟩
theorem Sys.setCellWord (h : Sys w B K r N cs v nd M q st) {i x : Nat} {acc : Int} (hi : i < K.k) (hm : Mod (· = K.s i) w w') (h1 : IsWord w' (K.s i) (x : Int) acc) : Sys w' B K r N cs (upd v i x) nd M q st := by
  refine h.words hm (fun b e => .inl ⟨i, hi, e⟩) (fun j hj => ?_) (fun j d hj => .inr ⟨fun e => h.sq i j d hi hj e.symm, rfl⟩) h.non
  by_cases hij : j = i
  · subst hij; rw [upd_same]; exact .inl ⟨acc, h1⟩
  · rw [upd_other _ _ hij]; exact .inr ⟨h.cf.dd j i hj hi hij, rfl⟩
theorem Sys.sameCellWord (h : Sys w B K r N cs v nd M q st) {i : Nat} {acc : Int} (hi : i < K.k) (hm : Mod (· = K.s i) w w') (h1 : IsWord w' (K.s i) (v i : Int) acc) : Sys w' B K r N cs v nd M q st := by
  refine h.words hm (fun b e => .inl ⟨i, hi, e⟩) (fun j hj => ?_) (fun j d hj => .inr ⟨fun e => h.sq i j d hi hj e.symm, rfl⟩) h.non
  by_cases hij : j = i
  · subst hij; exact .inl ⟨acc, h1⟩
  · exact .inr ⟨h.cf.dd j i hj hi hij, rfl⟩
def updz {α : Type} (f : Int → α) (i : Int) (v : α) : Int → α := fun j => if j = i then v else f j
theorem updz_same {α : Type} (f : Int → α) (i : Int) (v : α) : updz f i v i = v := if_pos rfl
theorem updz_other {α : Type} (f : Int → α) {i j : Int} (v : α) (h : j ≠ i) : updz f i v j = f j := if_neg h
theorem Sys.setSt (h : Sys w B K r N cs v nd M q st) {i : Int} {d : Nat} {x acc : Int} (hi : M i = some d) (hm : Mod (· = q i) w w') (h1 : IsWord w' (q i) x acc) : Sys w' B K r N cs v nd M q (updz st i x) := by
  refine h.words hm (fun b e => .inr ⟨i, d, hi, e⟩) (fun j hj => .inr ⟨fun e => h.sq j i d hj hi e, rfl⟩) (fun j d' hj => ?_) (fun j hj => ?_)
  · by_cases hij : j = i
    · subst hij; rw [updz_same]; exact .inl ⟨acc, h1⟩
    · rw [updz_other _ _ hij]; exact .inr ⟨h.qq j i d' d hj hi hij, rfl⟩
  · by_cases hij : j = i
    · subst hij; rw [hi] at hj; cases hj
    · rw [updz_other _ _ hij]; exact h.non j hj
theorem Sys.sameSt (h : Sys w B K r N cs v nd M q st) {i : Int} {d : Nat} {acc : Int} (hi : M i = some d) (hm : Mod (· = q i) w w') (h1 : IsWord w' (q i) (st i) acc) : Sys w' B K r N cs v nd M q st := by
  refine h.words hm (fun b e => .inr ⟨i, d, hi, e⟩) (fun j hj => .inr ⟨fun e => h.sq j i d hj hi e, rfl⟩) (fun j d' hj => ?_) h.non
  by_cases hij : j = i
  · subst hij; exact .inl ⟨acc, h1⟩
  · exact .inr ⟨h.qq j i d' d hj hi hij, rfl⟩
/-- A record was put. -/
theorem Sys.put {r' N' : Nat} {cs' : List Value} (h : Sys w B K r N cs v nd M q st) (hB : B ≤ w.heap.size) (ha : Arn_rec w' K.a r' N' K.most cs') (hr : r' = r ∨ w.heap.size ≤ r') (hm : Mod (two K.a r) w w') (hN : N ≤ N') (hf : (N' : Int) ≤ K.most) :
    Sys w' B K r' N' cs' v nd M q st := by
  have hne := h.cf.ne
  have hold := h.old
  have e5 := h.other h.tab (by decide) (by decide) (by decide) (by decide)
  obtain ⟨A1, p1, hA, -⟩ := h.cf.arn
  have e6 : K.m ≠ K.a := h.map.ne_blk hA
  have e7 : K.m ≠ r := by
    by_cases e : r = K.a
    · rw [e]; exact e6
    · obtain ⟨cur, hx⟩ := Own.rowBlk h.cf.arn e; exact h.map.ne_blk hx
  refine { h with cf := h.cf.put ha hr hm (not_two (by omega) (by omega)) (not_two (by omega) (by omega)) (fun i hi => ?_), tab := Blk.keep h.tab hm (not_two (by omega) (by omega)), map := h.map.keep hm (not_two (by omega) (by omega)), dsc := fun i d hd => ?_, dst := fun i d hd => ?_, old := by omega, le := Nat.le_trans h.le hN, fit := hf }
  · have := h.cf.ap i hi
    exact not_two (by omega) (by omega)
  · obtain ⟨p, x, hx⟩ := h.dsc i d hd
    have := h.other hx (by decide) (by decide) (by decide) (by decide)
    exact ⟨p, x, Blk.keep hx hm (not_two (by omega) (by omega))⟩
  · obtain ⟨acc, hx⟩ := h.dst i d hd
    have := h.other hx (by decide) (by decide) (by decide) (by decide)
    exact ⟨acc, Blk.keep hx hm (not_two (by omega) (by omega))⟩
/-- A descriptor has begun. -/
theorem Sys.begin_ {new : List Value} {prio : Int} (h : Sys w B K r N cs v nd M q st) (hB : B ≤ w.heap.size) (hp : BegPost w w' K.t K.a r K.m N nd K.most cs new M prio) (hm : Mod (fun b => b = K.a ∨ b = r ∨ b = K.m) w w') (hf : (N : Int) < K.most) :
    ∃ r' d x, (r' = r ∨ w.heap.size ≤ r') ∧ w.heap.size ≤ d ∧ w.heap.size ≤ x ∧ Sys w' B K r' (N + 1) (cs ++ new) v (nd + 1) (updz M N (some d)) (updz q N x) (updz st N 1) := by
  obtain ⟨⟨r', hr', hner, ha⟩, ht, d, x, acc, hm', hd, hx, c1, c2, c3⟩ := hp
  have hne := h.cf.ne
  have hold := h.old
  have lm := h.map.lt
  have hnm : ∀ b ty xs, Blk w b ty xs → b ≠ K.m := fun b ty xs hb e => h.map.ne_blk hb e.symm
  obtain ⟨A2, p2, hC, -⟩ := h.cf.cls
  have e1 := hnm _ _ _ hC
  have e2 : K.rc ≠ K.m := by
    by_cases e : K.rc = K.c
    · rw [e]; exact e1
    · obtain ⟨cur, hx⟩ := Own.rowBlk h.cf.cls e; exact hnm _ _ _ hx
  refine ⟨r', d, x, hr', c1, c2, ?_⟩
  refine { h with cf := h.cf.put ha hr' hm (by omega) (by omega) (fun i hi => ?_), tab := ht, map := hm', dsc := fun i d' hi => ?_, dst := fun i d' hi => ?_, non := fun i hi => ?_, qq := fun i j d1 d2 hi hj hij => ?_, sq := fun i j d' hi hj => ?_, bd := fun i d' hi => ?_, old := by omega, le := Nat.succ_le_succ h.le, fit := by omega }
  · have := h.cf.ap i hi
    obtain ⟨acc', hy⟩ := h.cf.wrd i hi
    have := hnm _ _ _ hy
    omega
  · by_cases hij : i = N
    · subst hij; rw [updz_same] at hi ⊢; obtain rfl := Option.some.inj hi; exact ⟨_, _, hd⟩
    · rw [updz_other _ _ hij] at hi ⊢
      obtain ⟨p, y, hy⟩ := h.dsc i d' hi
      have := h.other hy (by decide) (by decide) (by decide) (by decide)
      exact ⟨p, y, Blk.keep hy hm (by omega)⟩
  · by_cases hij : i = N
    · subst hij; rw [updz_same, updz_same]; exact ⟨_, hx⟩
    · rw [updz_other _ _ hij] at hi ⊢
      rw [updz_other _ _ hij]
      obtain ⟨acc', hy⟩ := h.dst i d' hi
      have := h.other hy (by decide) (by decide) (by decide) (by decide)
      exact ⟨acc', Blk.keep hy hm (by omega)⟩
  · by_cases hij : i = N
    · subst hij; rw [updz_same] at hi; cases hi
    · rw [updz_other _ _ hij] at hi ⊢; exact h.non i hi
  · have hlt : ∀ z d', M z = some d' → q z < w.heap.size := fun z d' hz => h.lt (.inr (.inr (.inr (.inr (.inr (.inr (.inr ⟨z, d', hz, .inr rfl⟩)))))))
    by_cases hiN : i = N
    · subst hiN
      rw [updz_other _ _ (Ne.symm hij)] at hj
      rw [updz_same, updz_other _ _ (Ne.symm hij)]
      have := hlt j _ hj
      omega
    · rw [updz_other _ _ hiN] at hi ⊢
      have := hlt i _ hi
      by_cases hjN : j = N
      · subst hjN; rw [updz_same]; omega
      · rw [updz_other _ _ hjN] at hj ⊢; exact h.qq i j d1 d2 hi hj hij
  · have hlt := h.cf.lts hi
    by_cases hjN : j = N
    · subst hjN; rw [updz_same]; omega
    · rw [updz_other _ _ hjN] at hj ⊢; exact h.sq i j d' hi hj
  · by_cases hij : i = N
    · subst hij; rw [updz_same] at hi ⊢; obtain rfl := Option.some.inj hi; omega
    · rw [updz_other _ _ hij] at hi ⊢; exact h.bd i d' hi
end
end Go.Proofs.Ytanmibdnnjfpbaa
