/- A whole floor: its parts together, and what keeps them. -/
import Derived.Test.YtcfpgecchappoaaFloorG
namespace Go.Proofs.Ytcfpgecchappoaa
open Go.RowKit

/-- What stays as it is behind New. -/
structure FD where
  p : Nat
  n1 : Nat
  nd : Nat
  cc : Nat
  tk : Nat
  g : Nat
  gw : Nat
  gp : Nat
  rp : Nat
  T : Nat
  Ac : Option Addr
  K : KD
  ld : List Int
  c0 : Int
  c2 : Int
  c3 : Int
  c4 : Int
  c5 : Int

structure Flo (P : Nat → Prop) (D : FD) (w : World) (B r N : Nat) (cs : List Value) (v : Nat → Nat) (nn : Nat) (M : Int → Option Nat) (q : Int → Nat) (st : Int → Int) (tkn gc : Int) (ps : List Int) (G : Nat → Nat) (tn rt : Nat) (ts : List Value) : Prop where
  flo : FloorO w D.p rt tn (.pointer (some ⟨D.K.a, 0, none⟩)) (.pointer (some ⟨D.K.t, 0, none⟩)) (.pointer (some ⟨D.K.c, 0, none⟩)) (.pointer (some ⟨D.tk, 0, none⟩)) (.pointer (some ⟨D.g, 0, none⟩)) D.c0 D.n1 D.c2 D.c3 D.c4 D.c5 D.T (.slice D.Ac D.nd D.cc) (.slice (some ⟨D.rp, 0, none⟩) D.n1 D.n1) ts
  sys : Sys w B D.K r N cs v nn M q st
  tck : IsTick w D.tk tkn D.c3
  gat : IsGate w D.g D.gw D.gp D.n1 gc ps
  drw : LocRow w B 5 1 (.slice D.Ac D.nd D.cc) D.nd (D.ld.map (Value.int .u8))
  drn : RowN w D.rp D.n1 G
  sgw : ¬ In D.K r M q D.gw
  rgp : D.rp ≠ D.gp
  pP : P D.p ∧ P rt ∧ P D.tk ∧ P D.g ∧ P D.gw ∧ P D.gp ∧ P D.rp
  dP : ∀ b, some b = (Value.slice D.Ac D.nd D.cc).ownBlock → P b
  sP : ∀ b, In D.K r M q b → P b
  hB : B ≤ w.heap.size

section
variable {P : Nat → Prop} {D : FD} {w w' : World} {B r N nn : Nat} {cs : List Value} {v : Nat → Nat} {M : Int → Option Nat} {q : Int → Nat} {st : Int → Int} {tkn gc : Int} {ps : List Int} {G : Nat → Nat} {tn rt : Nat} {ts : List Value}
theorem Flo.keep {S : Nat → Prop} (h : Flo P D w B r N cs v nn M q st tkn gc ps G tn rt ts) (hm : Mod S w w') (hS : ∀ b, P b → ¬ S b) : Flo P D w' B r N cs v nn M q st tkn gc ps G tn rt ts :=
  have e := h.pP
  { h with flo := Own.keep h.flo hm (hS _ e.1) (hS _ e.2.1), sys := h.sys.keep hm fun b hb => hS b (h.sP b hb), tck := Blk.keep h.tck hm (hS _ e.2.2.1), gat := h.gat.keep hm (hS _ e.2.2.2.1) (hS _ e.2.2.2.2.1) (hS _ e.2.2.2.2.2.1), drw := h.drw.far hm fun b hb => hS b (h.dP b hb), drn := h.drn.keep hm (hS _ e.2.2.2.2.2.2), hB := Nat.le_trans h.hB hm.size }
theorem Flo.keep0 (h : Flo P D w B r N cs v nn M q st tkn gc ps G tn rt ts) (hm : Mod nowhere w w') : Flo P D w' B r N cs v nn M q st tkn gc ps G tn rt ts := h.keep hm fun _ _ x => x
theorem Flo.weaken {P' : Nat → Prop} (h : Flo P D w B r N cs v nn M q st tkn gc ps G tn rt ts) (hP : ∀ b, P b → P' b) : Flo P' D w B r N cs v nn M q st tkn gc ps G tn rt ts :=
  have e := h.pP
  { h with pP := ⟨hP _ e.1, hP _ e.2.1, hP _ e.2.2.1, hP _ e.2.2.2.1, hP _ e.2.2.2.2.1, hP _ e.2.2.2.2.2.1, hP _ e.2.2.2.2.2.2⟩, dP := fun b hb => hP b (h.dP b hb), sP := fun b hb => hP b (h.sP b hb) }
theorem Flo.blk (h : Flo P D w B r N cs v nn M q st tkn gc ps G tn rt ts) : ∃ s, Blk w D.p 86 #[.pointer (some ⟨D.K.a, 0, none⟩), .pointer (some ⟨D.K.t, 0, none⟩), .pointer (some ⟨D.K.c, 0, none⟩), .pointer (some ⟨D.tk, 0, none⟩), .pointer (some ⟨D.g, 0, none⟩), .int .i64 D.c0, .int .i64 D.n1, .int .i64 D.c2, .int .i64 D.c3, .int .i64 D.c4, .int .i64 D.c5, .iface D.T (.agg #[]), .slice D.Ac D.nd D.cc, .slice (some ⟨D.rp, 0, none⟩) D.n1 D.n1, s] := by
  obtain ⟨A, cap, hb, -, -⟩ := h.flo.open_
  exact ⟨_, hb⟩
/-- A block of another type than the floor's and the trace's is neither of them. -/
theorem Flo.notTr (h : Flo P D w B r N cs v nn M q st tkn gc ps G tn rt ts) {b : Nat} {ty : TypeId} {xs : Array Value} (hb : Blk w b ty xs) (h1 : ty ≠ 86) (h2 : ty ≠ 38) : D.p ≠ b ∧ rt ≠ b := by
  obtain ⟨s, hp⟩ := h.blk
  have e := Blk.ne_ hb hp h1
  refine ⟨fun x => e x.symm, ?_⟩
  by_cases x : rt = D.p
  · rw [x]; exact fun x => e x.symm
  · obtain ⟨cur, hx⟩ := Own.rowBlk h.flo x
    exact fun x => Blk.ne_ hb hx h2 x.symm
theorem Flo.notIn (h : Flo P D w B r N cs v nn M q st tkn gc ps G tn rt ts) : ¬ In D.K r M q D.p ∧ ¬ In D.K r M q rt ∧ ¬ In D.K r M q D.tk ∧ ¬ In D.K r M q D.g ∧ ¬ In D.K r M q D.gp ∧ ¬ In D.K r M q D.rp := by
  obtain ⟨s, hp⟩ := h.blk
  have hpn := h.sys.notIn hp (by decide) (by decide) (by decide) (by decide) (by decide) (by decide) (by decide)
  obtain ⟨cr, hr, -, -⟩ := h.drn
  refine ⟨hpn, ?_, h.sys.notIn h.tck (by decide) (by decide) (by decide) (by decide) (by decide) (by decide) (by decide), h.sys.notIn h.gat.1 (by decide) (by decide) (by decide) (by decide) (by decide) (by decide) (by decide), h.sys.notIn h.gat.2.2.1 (by decide) (by decide) (by decide) (by decide) (by decide) (by decide) (by decide), h.sys.notIn hr (by decide) (by decide) (by decide) (by decide) (by decide) (by decide) (by decide)⟩
  by_cases x : rt = D.p
  · rw [x]; exact hpn
  · obtain ⟨cur, hx⟩ := Own.rowBlk h.flo x
    exact h.sys.notIn hx (by decide) (by decide) (by decide) (by decide) (by decide) (by decide) (by decide)
theorem Flo.ne (h : Flo P D w B r N cs v nn M q st tkn gc ps G tn rt ts) : (D.p ≠ D.tk ∧ D.p ≠ D.g ∧ D.p ≠ D.gw ∧ D.p ≠ D.gp ∧ D.p ≠ D.rp) ∧ (rt ≠ D.tk ∧ rt ≠ D.g ∧ rt ≠ D.gw ∧ rt ≠ D.gp ∧ rt ≠ D.rp) ∧ (D.tk ≠ D.g ∧ D.tk ≠ D.gw ∧ D.tk ≠ D.gp ∧ D.tk ≠ D.rp) ∧ D.g ≠ D.rp ∧ D.gw ≠ D.rp ∧ D.rp ≠ D.gp := by
  obtain ⟨cr, hr, -, -⟩ := h.drn
  obtain ⟨acc, hw⟩ := h.gat.2.1
  have e1 := h.notTr h.tck (by decide) (by decide)
  have e2 := h.notTr h.gat.1 (by decide) (by decide)
  have e3 := h.notTr hw (by decide) (by decide)
  have e4 := h.notTr h.gat.2.2.1 (by decide) (by decide)
  have e5 := h.notTr hr (by decide) (by decide)
  exact ⟨⟨e1.1, e2.1, e3.1, e4.1, e5.1⟩, ⟨e1.2, e2.2, e3.2, e4.2, e5.2⟩, ⟨Blk.ne_ h.tck h.gat.1 (by decide), Blk.ne_ h.tck hw (by decide), Blk.ne_ h.tck h.gat.2.2.1 (by decide), Blk.ne_ h.tck hr (by decide)⟩, Blk.ne_ h.gat.1 hr (by decide), Blk.ne_ hw hr (by decide), h.rgp⟩
theorem Flo.dn (h : Flo P D w B r N cs v nn M q st tkn gc ps G tn rt ts) {b : Nat} (hb : some b = (Value.slice D.Ac D.nd D.cc).ownBlock) : b ≠ D.p ∧ b ≠ rt ∧ b ≠ D.tk ∧ b ≠ D.gw ∧ b ≠ D.gp ∧ b ≠ D.rp ∧ ¬ In D.K r M q b := by
  obtain ⟨-, cur, hx⟩ := h.drw.blk b hb
  obtain ⟨cr, hr, -, -⟩ := h.drn
  obtain ⟨acc, hw⟩ := h.gat.2.1
  have e := h.notTr hx (by decide) (by decide)
  exact ⟨fun x => e.1 x.symm, fun x => e.2 x.symm, Blk.ne_ hx h.tck (by decide), Blk.ne_ hx hw (by decide), Blk.ne_ hx h.gat.2.2.1 (by decide), Blk.ne_ hx hr (by decide), h.sys.notIn hx (by decide) (by decide) (by decide) (by decide) (by decide) (by decide) (by decide)⟩
/-- The arena, the table, the cells have changed. -/
theorem Flo.step {S : Nat → Prop} {r' N' nn' : Nat} {cs' : List Value} {v' : Nat → Nat} {M' : Int → Option Nat} {q' : Int → Nat} {st' : Int → Int} (h : Flo P D w B r N cs v nn M q st tkn gc ps G tn rt ts) (hU : ∀ b, w.heap.size ≤ b → P b) (hs : Sys w' B D.K r' N' cs' v' nn' M' q' st') (hm : Mod S w w') (hS : ∀ b, S b → In D.K r M q b) (hI : ∀ b, In D.K r' M' q' b → In D.K r M q b ∨ w.heap.size ≤ b) : Flo P D w' B r' N' cs' v' nn' M' q' st' tkn gc ps G tn rt ts :=
  have e := h.notIn
  { h with
    flo := Own.keep h.flo hm (fun x => e.1 (hS _ x)) (fun x => e.2.1 (hS _ x))
    sys := hs
    tck := Blk.keep h.tck hm (fun x => e.2.2.1 (hS _ x))
    gat := h.gat.keep hm (fun x => e.2.2.2.1 (hS _ x)) (fun x => h.sgw (hS _ x)) (fun x => e.2.2.2.2.1 (hS _ x))
    drw := h.drw.far hm fun b hb x => (h.dn hb).2.2.2.2.2.2 (hS b x)
    drn := h.drn.keep hm (fun x => e.2.2.2.2.2 (hS _ x))
    sgw := fun x => (hI _ x).elim h.sgw fun y => by have := h.gat.lt; omega
    sP := fun b hb => (hI b hb).elim (h.sP b) (hU b)
    hB := Nat.le_trans h.hB hm.size }
/-- Words of them were touched. -/
theorem Flo.stepW {v' : Nat → Nat} {st' : Int → Int} (h : Flo P D w B r N cs v nn M q st tkn gc ps G tn rt ts) (hs : Sys w' B D.K r N cs v' nn M q st') (hm : Mod (Wd D.K M q) w w') : Flo P D w' B r N cs v' nn M q st' tkn gc ps G tn rt ts := by
  have h2 : Flo (fun b => P b ∨ w.heap.size ≤ b) D w' B r N cs v' nn M q st' tkn gc ps G tn rt ts := (h.weaken fun b x => .inl x).step (fun b x => .inr x) hs hm (fun _ x => x.in_) fun _ x => .inl x
  exact { h2 with pP := h.pP, dP := h.dP, sP := h.sP }
/-- A record was put. -/
theorem Flo.stepR {r' N' : Nat} {cs' : List Value} (h : Flo P D w B r N cs v nn M q st tkn gc ps G tn rt ts) (hU : ∀ b, w.heap.size ≤ b → P b) (hs : Sys w' B D.K r' N' cs' v nn M q st) (hr : r' = r ∨ w.heap.size ≤ r') (hm : Mod (In D.K r M q) w w') : Flo P D w' B r' N' cs' v nn M q st tkn gc ps G tn rt ts :=
  h.step hU hs hm (fun _ x => x) fun b x => by
    rcases x with e | e | e | e | e | e | e | e
    · exact .inl (.inl e)
    · exact .inl (.inr (.inl e))
    · exact .inl (.inr (.inr (.inl e)))
    · rcases hr with hr | hr
      · exact .inl (.inr (.inr (.inr (.inl (e.trans hr)))))
      · exact .inr (by omega)
    · exact .inl (.inr (.inr (.inr (.inr (.inl e)))))
    · exact .inl (.inr (.inr (.inr (.inr (.inr (.inl e))))))
    · exact .inl (.inr (.inr (.inr (.inr (.inr (.inr (.inl e)))))))
    · exact .inl (.inr (.inr (.inr (.inr (.inr (.inr (.inr e)))))))
/-- A descriptor has begun. -/
theorem Flo.stepB {r' N' nn' d x : Nat} {cs' : List Value} {i : Int} {st' : Int → Int} (h : Flo P D w B r N cs v nn M q st tkn gc ps G tn rt ts) (hU : ∀ b, w.heap.size ≤ b → P b) (hs : Sys w' B D.K r' N' cs' v nn' (updz M i (some d)) (updz q i x) st') (hr : r' = r ∨ w.heap.size ≤ r') (hd : w.heap.size ≤ d) (hx : w.heap.size ≤ x) (hm : Mod (In D.K r M q) w w') : Flo P D w' B r' N' cs' v nn' (updz M i (some d)) (updz q i x) st' tkn gc ps G tn rt ts :=
  h.step hU hs hm (fun _ x => x) fun b y => by
    rcases y with e | e | e | e | e | e | e | ⟨j, d', hj, e⟩
    · exact .inl (.inl e)
    · exact .inl (.inr (.inl e))
    · exact .inl (.inr (.inr (.inl e)))
    · rcases hr with hr | hr
      · exact .inl (.inr (.inr (.inr (.inl (e.trans hr)))))
      · exact .inr (by omega)
    · exact .inl (.inr (.inr (.inr (.inr (.inl e)))))
    · exact .inl (.inr (.inr (.inr (.inr (.inr (.inl e))))))
    · exact .inl (.inr (.inr (.inr (.inr (.inr (.inr (.inl e)))))))
    · by_cases hij : j = i
      · subst hij
        rw [updz_same] at hj e
        obtain rfl := Option.some.inj hj
        exact .inr (by omega)
      · rw [updz_other _ _ hij] at hj e
        exact .inl (.inr (.inr (.inr (.inr (.inr (.inr (.inr ⟨j, d', hj, e⟩)))))))
/-- An event was noted. -/
theorem Flo.stepN {S : Nat → Prop} {tn' rt' : Nat} {ts' : List Value} (h : Flo P D w B r N cs v nn M q st tkn gc ps G tn rt ts) (hU : ∀ b, w.heap.size ≤ b → P b) (hf : FloorO w' D.p rt' tn' (.pointer (some ⟨D.K.a, 0, none⟩)) (.pointer (some ⟨D.K.t, 0, none⟩)) (.pointer (some ⟨D.K.c, 0, none⟩)) (.pointer (some ⟨D.tk, 0, none⟩)) (.pointer (some ⟨D.g, 0, none⟩)) D.c0 D.n1 D.c2 D.c3 D.c4 D.c5 D.T (.slice D.Ac D.nd D.cc) (.slice (some ⟨D.rp, 0, none⟩) D.n1 D.n1) ts') (hr : rt' = rt ∨ w.heap.size ≤ rt') (hm : Mod S w w') (hS : ∀ b, S b → b = D.p ∨ b = rt) : Flo P D w' B r N cs v nn M q st tkn gc ps G tn' rt' ts' :=
  have e := h.ne
  have z := h.pP
  { h with
    flo := hf
    sys := h.sys.keep hm fun b hb x => (hS b x).elim (fun y => h.notIn.1 (y ▸ hb)) (fun y => h.notIn.2.1 (y ▸ hb))
    tck := Blk.keep h.tck hm (fun x => by have := hS _ x; omega)
    gat := h.gat.keep hm (fun x => by have := hS _ x; omega) (fun x => by have := hS _ x; omega) (fun x => by have := hS _ x; omega)
    drw := h.drw.far hm fun b hb x => by have := hS b x; have := h.dn hb; omega
    drn := h.drn.keep hm (fun x => by have := hS _ x; omega)
    pP := ⟨z.1, hr.elim (fun y => y ▸ z.2.1) (fun y => hU _ y), z.2.2⟩
    hB := Nat.le_trans h.hB hm.size }
/-- A ticket was taken. -/
theorem Flo.stepT {tkn' : Int} (h : Flo P D w B r N cs v nn M q st tkn gc ps G tn rt ts) (ht : IsTick w' D.tk tkn' D.c3) (hm : Mod (· = D.tk) w w') : Flo P D w' B r N cs v nn M q st tkn' gc ps G tn rt ts :=
  have e := h.ne
  { h with
    flo := Own.keep h.flo hm (by omega) (by omega)
    sys := h.sys.keep hm fun b hb x => h.notIn.2.2.1 (x ▸ hb)
    tck := ht
    gat := h.gat.keep hm (by omega) (by omega) (by omega)
    drw := h.drw.far hm fun b hb x => (h.dn hb).2.2.1 x
    drn := h.drn.keep hm (by omega)
    hB := Nat.le_trans h.hB hm.size }
/-- The gate's word, or a pulse, was touched. -/
theorem Flo.stepG {S : Nat → Prop} {gc' : Int} {ps' : List Int} (h : Flo P D w B r N cs v nn M q st tkn gc ps G tn rt ts) (hg : IsGate w' D.g D.gw D.gp D.n1 gc' ps') (hm : Mod S w w') (hS : ∀ b, S b → b = D.gw ∨ b = D.gp) : Flo P D w' B r N cs v nn M q st tkn gc' ps' G tn rt ts :=
  have e := h.ne
  { h with
    flo := Own.keep h.flo hm (fun x => by have := hS _ x; omega) (fun x => by have := hS _ x; omega)
    sys := h.sys.keep hm fun b hb x => (hS b x).elim (fun y => h.sgw (y ▸ hb)) (fun y => h.notIn.2.2.2.2.1 (y ▸ hb))
    tck := Blk.keep h.tck hm (fun x => by have := hS _ x; omega)
    gat := hg
    drw := h.drw.far hm fun b hb x => by have := hS b x; have := h.dn hb; omega
    drn := h.drn.keep hm (fun x => by have := hS _ x; omega)
    hB := Nat.le_trans h.hB hm.size }
/-- A thread has drawn. -/
theorem Flo.stepD {G' : Nat → Nat} (h : Flo P D w B r N cs v nn M q st tkn gc ps G tn rt ts) (hd : RowN w' D.rp D.n1 G') (hm : Mod (· = D.rp) w w') : Flo P D w' B r N cs v nn M q st tkn gc ps G' tn rt ts :=
  have e := h.ne
  { h with
    flo := Own.keep h.flo hm (by omega) (by omega)
    sys := h.sys.keep hm fun b hb x => h.notIn.2.2.2.2.2 (x ▸ hb)
    tck := Blk.keep h.tck hm (by omega)
    gat := h.gat.keep hm (by omega) (by omega) (by omega)
    drw := h.drw.far hm fun b hb x => (h.dn hb).2.2.2.2.2.1 x
    drn := hd
    hB := Nat.le_trans h.hB hm.size }
end
/-- A new floor is one. -/
theorem FloorNew.flo {w w' : World} {n c1 nd : Nat} {c2 c3 c4 c5 : Int} {T : Nat} {l ld : List Int} {p : Nat} (h : FloorNew w w' n c1 nd c2 c3 c4 c5 T l ld p) :
    ∃ (D : FD) (r : Nat) (cs : List Value), D.p = p ∧ D.n1 = c1 ∧ D.nd = nd ∧ D.c0 = n ∧ D.c2 = c2 ∧ D.c3 = c3 ∧ D.c4 = c4 ∧ D.c5 = c5 ∧ D.T = T ∧ D.ld = ld ∧ D.K.k = n ∧ D.K.most = c2 ∧ First l n cs ∧
      Flo (fun b => w.heap.size ≤ b ∧ b < w'.heap.size) D w' w.heap.size r (2 * n) cs (fun i => 2 * i + 1) 0 (fun _ => none) (fun _ => 0) (fun _ => 0) 0 0 (List.replicate c1 0) (fun _ => 0) 0 p [] ∧ Mod nowhere w w' := by
  obtain ⟨K, r, tk, g, gw, gp, rp, cc, Ac, cs, hp, hk, hmo, hs, hf, ht, hg, hd, hr, ⟨l1, l2, l3, l4, l5, l6, l7, l8⟩, hm⟩ := h
  refine ⟨⟨p, c1, nd, cc, tk, g, gw, gp, rp, T, Ac, K, ld, n, c2, c3, c4, c5⟩, r, cs, rfl, rfl, rfl, rfl, rfl, rfl, rfl, rfl, rfl, rfl, hk, hmo, hf, ?_, hm⟩
  refine { flo := Own.start hp, sys := hs, tck := ht, gat := hg, drw := hd, drn := RowN.zero hr, sgw := ?_, rgp := l7, pP := ⟨⟨l1, hp.lt⟩, ⟨l1, hp.lt⟩, ⟨l2, ht.lt⟩, ⟨l3, hg.lt.1⟩, ⟨l4, hg.lt.2.1⟩, ⟨l5, hg.lt.2.2⟩, ⟨l6, hr.lt⟩⟩, dP := fun b hb => ⟨(hd.blk b hb).1, by obtain ⟨-, cur, hx⟩ := hd.blk b hb; exact hx.lt⟩, sP := fun b hb => ⟨hs.ge hb, hs.lt hb⟩, hB := hm.size }
  obtain ⟨acc, hw⟩ := hg.2.1
  obtain ⟨e1, e2, e3, e4, e5⟩ := hs.other hw (by decide) (by decide) (by decide) (by decide)
  rintro (e | e | e | e | e | e | ⟨i, hi, e⟩ | ⟨i, d, hd, e⟩)
  · exact e1 e
  · exact e2 e
  · exact e3 e
  · exact e4 e
  · exact Blk.ne_ hw hs.tab (by decide) e
  · exact e5 e
  · exact l8 i (hk ▸ hi) e.symm
  · cases hd
end Go.Proofs.Ytcfpgecchappoaa
