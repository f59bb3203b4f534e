/- A floor whose state is as New made it, but for tickets and pulses: what the calls do. -/
import Derived.Test.YtcfpgecchappoaaFloorM
import Derived.Test.YtcfpgecchappoaaFloorJ
namespace Go.Proofs.Ytcfpgecchappoaa
open Go.RowKit

def FloX (P : Nat → Prop) (D : FD) (B r N : Nat) (cs : List Value) (tkn : Int) (w : World) : Prop := ∃ ps, Flo P D w B r N cs (fun i => 2 * i + 1) 0 (fun _ => none) (fun _ => 0) (fun _ => 0) tkn 0 ps (fun _ => 0) 0 D.p []
section
variable {P : Nat → Prop} {D : FD} {B r N : Nat} {cs : List Value} {tkn : Int}
theorem FloX.drew {w : World} (h : FloX P D B r N cs tkn w) : FloX P D B r N cs tkn w.drew := h.imp fun _ h => h.keep0 (Mod.drew (Mod.refl _ _))
theorem FloX.keep0 {w w' : World} (h : FloX P D B r N cs tkn w) (hm : Mod nowhere w w') : FloX P D B r N cs tkn w' := h.imp fun _ h => h.keep0 hm
theorem xarena (w : World) (h : FloX P D B r N cs tkn w) :
    Calls Try.prog 16 #[.pointer (some ⟨D.p, 0, none⟩)] w fun e w' => e = .returned (.pointer (some ⟨D.K.a, 0, none⟩)) ∧ FloX P D B r N cs tkn w' ∧ Mod P w w' := by
  obtain ⟨ps, h⟩ := h
  exact (farena w h).mono (by rintro e w' ⟨rfl, h', hm⟩; exact ⟨rfl, ⟨_, h'⟩, hm⟩)
theorem xtable (w : World) (h : FloX P D B r N cs tkn w) :
    Calls Try.prog 17 #[.pointer (some ⟨D.p, 0, none⟩)] w fun e w' => e = .returned (.pointer (some ⟨D.K.t, 0, none⟩)) ∧ FloX P D B r N cs tkn w' ∧ Mod P w w' := by
  obtain ⟨ps, h⟩ := h
  exact (ftable w h).mono (by rintro e w' ⟨rfl, h', hm⟩; exact ⟨rfl, ⟨_, h'⟩, hm⟩)
theorem xcells (w : World) (h : FloX P D B r N cs tkn w) :
    Calls Try.prog 18 #[.pointer (some ⟨D.p, 0, none⟩)] w fun e w' => e = .returned (.pointer (some ⟨D.K.c, 0, none⟩)) ∧ FloX P D B r N cs tkn w' ∧ Mod P w w' := by
  obtain ⟨ps, h⟩ := h
  exact (fcells w h).mono (by rintro e w' ⟨rfl, h', hm⟩; exact ⟨rfl, ⟨_, h'⟩, hm⟩)
theorem xtickets (w : World) (h : FloX P D B r N cs tkn w) :
    Calls Try.prog 19 #[.pointer (some ⟨D.p, 0, none⟩)] w fun e w' => e = .returned (.pointer (some ⟨D.tk, 0, none⟩)) ∧ FloX P D B r N cs tkn w' ∧ Mod P w w' := by
  obtain ⟨ps, h⟩ := h
  exact (ftickets w h).mono (by rintro e w' ⟨rfl, h', hm⟩; exact ⟨rfl, ⟨_, h'⟩, hm⟩)
theorem xgate (w : World) (h : FloX P D B r N cs tkn w) :
    Calls Try.prog 20 #[.pointer (some ⟨D.p, 0, none⟩)] w fun e w' => e = .returned (.pointer (some ⟨D.g, 0, none⟩)) ∧ FloX P D B r N cs tkn w' ∧ Mod P w w' := by
  obtain ⟨ps, h⟩ := h
  exact (fgate w h).mono (by rintro e w' ⟨rfl, h', hm⟩; exact ⟨rfl, ⟨_, h'⟩, hm⟩)
theorem xmanager (w : World) (h : FloX P D B r N cs tkn w) (T : Nat) (hT : D.T = T) :
    Calls Try.prog 21 #[.pointer (some ⟨D.p, 0, none⟩)] w fun e w' => e = .returned (.iface T (.agg #[])) ∧ FloX P D B r N cs tkn w' ∧ Mod P w w' := by
  obtain ⟨ps, h⟩ := h
  exact (hT ▸ fmanager w h).mono (by rintro e w' ⟨rfl, h', hm⟩; exact ⟨rfl, ⟨_, h'⟩, hm⟩)
theorem xconfig (w : World) (h : FloX P D B r N cs tkn w) (x0 x1 x2 x3 x4 x5 : Int) (h0 : D.c0 = x0) (h1 : (D.n1 : Int) = x1) (h2 : D.c2 = x2) (h3 : D.c3 = x3) (h4 : D.c4 = x4) (h5 : D.c5 = x5) :
    Calls Try.prog 15 #[.pointer (some ⟨D.p, 0, none⟩)] w fun e w' => e = .returned (.agg #[.int .i64 x0, .int .i64 x1, .int .i64 x2, .int .i64 x3, .int .i64 x4, .int .i64 x5]) ∧ FloX P D B r N cs tkn w' ∧ Mod P w w' := by
  obtain ⟨ps, h⟩ := h
  exact (h0 ▸ h1 ▸ h2 ▸ h3 ▸ h4 ▸ h5 ▸ fconfig w h).mono (by rintro e w' ⟨rfl, h', hm⟩; exact ⟨rfl, ⟨_, h'⟩, hm⟩)
theorem xalen (w : World) (h : FloX P D B r N cs tkn w) (n : Int) (hn : (N : Int) = n) :
    Calls Try.prog 26 #[.pointer (some ⟨D.K.a, 0, none⟩)] w fun e w' => e = .returned (.int .i64 n) ∧ FloX P D B r N cs tkn w' ∧ Mod P w w' := by
  obtain ⟨ps, h⟩ := h
  exact (falen w h n hn).mono (by rintro e w' ⟨rfl, h', hm⟩; exact ⟨rfl, ⟨_, h'⟩, hm⟩)
theorem xaleft (w : World) (h : FloX P D B r N cs tkn w) (n : Int) (hn : D.K.most - (N : Int) = n) :
    Calls Try.prog 27 #[.pointer (some ⟨D.K.a, 0, none⟩)] w fun e w' => e = .returned (.int .i64 n) ∧ FloX P D B r N cs tkn w' ∧ Mod P w w' := by
  obtain ⟨ps, h⟩ := h
  exact (faleft w h n hn).mono (by rintro e w' ⟨rfl, h', hm⟩; exact ⟨rfl, ⟨_, h'⟩, hm⟩)
theorem xcount (w : World) (h : FloX P D B r N cs tkn w) :
    Calls Try.prog 28 #[.pointer (some ⟨D.K.t, 0, none⟩)] w fun e w' => e = .returned (.int .i64 0) ∧ FloX P D B r N cs tkn w' ∧ Mod P w w' := by
  obtain ⟨ps, h⟩ := h
  exact (fcount w h rfl).mono (by rintro e w' ⟨rfl, h', hm⟩; exact ⟨rfl, ⟨_, h'⟩, hm⟩)
theorem xobj (w : World) (h : FloX P D B r N cs tkn w) (n : Int) (hn : (D.K.k : Int) = n) :
    Calls Try.prog 29 #[.pointer (some ⟨D.K.c, 0, none⟩)] w fun e w' => e = .returned (.int .i64 n) ∧ FloX P D B r N cs tkn w' ∧ Mod P w w' := by
  obtain ⟨ps, h⟩ := h
  exact (fobj w h n hn).mono (by rintro e w' ⟨rfl, h', hm⟩; exact ⟨rfl, ⟨_, h'⟩, hm⟩)
theorem xtaken (w : World) (h : FloX P D B r N cs tkn w) (n : Int) (hn : tkn = n) :
    Calls Try.prog 30 #[.pointer (some ⟨D.tk, 0, none⟩)] w fun e w' => e = .returned (.int .i64 n) ∧ FloX P D B r N cs tkn w' ∧ Mod P w w' := by
  obtain ⟨ps, h⟩ := h
  exact (ftaken w h n hn).mono (by rintro e w' ⟨rfl, h', hm⟩; exact ⟨rfl, ⟨_, h'⟩, hm⟩)
theorem xsee (w : World) (h : FloX P D B r N cs tkn w) :
    Calls Try.prog 31 #[.pointer (some ⟨D.g, 0, none⟩)] w fun e w' => e = .returned (sightV false 0 0 0) ∧ FloX P D B r N cs tkn w' ∧ Mod P w w' := by
  obtain ⟨ps, h⟩ := h
  exact (fsee w h rfl).mono (by rintro e w' ⟨rfl, h', hm⟩; exact ⟨rfl, ⟨_, h'⟩, hm⟩)
theorem xtake (w : World) (h : FloX P D B r N cs tkn w) (n : Int) (hn : tkn = n) (h0 : 0 ≤ n) (hnm : n < D.c3) (hm : D.c3 ≤ 255) :
    Calls Try.prog 32 #[.pointer (some ⟨D.tk, 0, none⟩)] w fun e w' => e = .returned (.tuple #[.int .i64 n, .int .i64 0]) ∧ FloX P D B r N cs (n + 1) w' ∧ Mod P w w' := by
  obtain ⟨ps, h⟩ := h
  exact (ftake w h n hn h0 hnm hm).mono (by rintro e w' ⟨rfl, h', hm⟩; exact ⟨rfl, ⟨_, h'⟩, hm⟩)
theorem xtake_none (w : World) (h : FloX P D B r N cs tkn w) (hnm : D.c3 ≤ tkn) :
    Calls Try.prog 32 #[.pointer (some ⟨D.tk, 0, none⟩)] w fun e w' => e = .returned (.tuple #[.int .i64 0, .int .i64 5]) ∧ FloX P D B r N cs tkn w' ∧ Mod P w w' := by
  obtain ⟨ps, h⟩ := h
  exact (ftake_none w h hnm).mono (by rintro e w' ⟨rfl, h', hm⟩; exact ⟨rfl, ⟨_, h'⟩, hm⟩)
theorem xbeat (w : World) (h : FloX P D B r N cs tkn w) (tx : Int) (t : Nat) (htx : tx = t) (ht : t < D.n1) :
    Calls Try.prog 33 #[.pointer (some ⟨D.g, 0, none⟩), .int .i64 tx] w fun e w' => e = .returned (.int .i64 0) ∧ FloX P D B r N cs tkn w' ∧ Mod P w w' := by
  obtain ⟨ps, h⟩ := h
  exact (fbeat w h tx t htx ht).mono (by rintro e w' ⟨ps', rfl, h', hm⟩; exact ⟨rfl, ⟨_, h'⟩, hm⟩)
theorem xbeat_bad (w : World) (h : FloX P D B r N cs tkn w) (t : Int) (ht : (D.n1 : Int) ≤ t) :
    Calls Try.prog 33 #[.pointer (some ⟨D.g, 0, none⟩), .int .i64 t] w fun e w' => e = .returned (.int .i64 6) ∧ FloX P D B r N cs tkn w' ∧ Mod P w w' := by
  obtain ⟨ps, h⟩ := h
  exact (fbeat_bad w h t (.inr ht)).mono (by rintro e w' ⟨rfl, h', hm⟩; exact ⟨rfl, ⟨_, h'⟩, hm⟩)
theorem xvalues (w : World) (h : FloX P D B r N cs tkn w) (l : List Int) (n : Nat) (hk : D.K.k = n) (hl : l.length = n) (hF : First l n cs) (hN : 2 * n ≤ N) :
    Calls Try.prog 22 #[.pointer (some ⟨D.p, 0, none⟩)] w fun e w' => ∃ A c, e = .returned (.slice A n c) ∧ Reads w' w'.heap.size 1 A n (l.map (Value.int .i64)) ∧ FloX P D B r N cs tkn w' ∧ Mod P w w' := by
  obtain ⟨ps, h⟩ := h
  exact (fvalues w h l n hk hl (fun i y hy => First.cur hF (by have := (List.getElem?_eq_some_iff.1 hy).1; omega) hy hN)).mono (by
    rintro e w' ⟨z, rfl, hz, h', hm⟩
    obtain ⟨A, c, rfl, hr⟩ := hz.reads
    exact ⟨A, c, rfl, hr, ⟨_, h'⟩, hm⟩)
theorem xtrace (w : World) (h : FloX P D B r N cs tkn w) :
    Calls Try.prog 13 #[.pointer (some ⟨D.p, 0, none⟩)] w fun e w' => ∃ A c, e = .returned (.slice A 0 c) ∧ FloX P D B r N cs tkn w' ∧ Mod P w w' := by
  obtain ⟨ps, h⟩ := h
  exact (ftrace w h [] rfl rfl (by omega)).mono (by
    rintro e w' ⟨z, rfl, hz, h', hm⟩
    obtain ⟨A, c, rfl, -⟩ := hz.reads
    exact ⟨A, c, rfl, ⟨_, h'⟩, hm⟩)
end
theorem FloorNew.flox {w w' : World} {n c1 nd : Nat} {c2 c3 c4 c5 : Int} {T : Nat} {l ld : List Int} {p : Nat} (h : FloorNew w w' n c1 nd c2 c3 c4 c5 T l ld p) :
    ∃ (P : Nat → Prop) (D : FD) (r : Nat) (cs : List Value), D.p = p ∧ D.n1 = c1 ∧ D.c0 = n ∧ D.c2 = c2 ∧ D.c3 = c3 ∧ D.c4 = c4 ∧ D.c5 = c5 ∧ D.T = T ∧ D.K.k = n ∧ D.K.most = c2 ∧ First l n cs ∧
      FloX P D w.heap.size r (2 * n) cs 0 w' ∧ (∀ b, P b → w.heap.size ≤ b) ∧ Mod nowhere w w' := by
  obtain ⟨D, r, cs, rfl, a1, -, a3, a4, a5, a6, a7, a8, -, a9, a10, hf, hA, hm⟩ := h.flo
  exact ⟨_, D, r, cs, rfl, a1, a3, a4, a5, a6, a7, a8, a9, a10, hf, ⟨_, hA⟩, fun b hb => hb.1, hm⟩
end Go.Proofs.Ytcfpgecchappoaa
