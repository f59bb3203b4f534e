/- A gate and the document's, each by one function of what is asked. -/
import Derived.Test.YtiklhnngkebkeaaGateFalls
import Derived.Test.YtiklhnngkebkeaaGateBeats
namespace Go.Proofs.Ytiklhnngkebkeaa
open Go.RowKit

/-- The document's gate. -/
def IsRG (w : World) (g gp N : Nat) (some : Bool) (st th : Int) (ps : List Int) : Prop :=
  Blk w g 51 #[.bool some, .int .i64 st, .int .i64 th, .slice (.some ⟨gp, 0, none⟩) N N] ∧ Blk w gp 3 (ps.map (Value.int .i64)).toArray ∧ ps.length = N ∧ g ≠ gp
theorem IsRG.lt {w : World} {g gp N : Nat} {some : Bool} {st th : Int} {ps : List Int} (h : IsRG w g gp N some st th ps) : g < w.heap.size ∧ gp < w.heap.size := ⟨h.1.lt, h.2.1.lt⟩
theorem IsRG.keep {S : Nat → Prop} {w w' : World} {g gp N : Nat} {some : Bool} {st th : Int} {ps : List Int} (h : IsRG w g gp N some st th ps) (hm : Mod S w w') (h1 : ¬ S g) (h2 : ¬ S gp) : IsRG w' g gp N some st th ps :=
  ⟨h.1.keep hm h1, h.2.1.keep hm h2, h.2.2⟩
theorem IsRG.keep0 {w w' : World} {g gp N : Nat} {some : Bool} {st th : Int} {ps : List Int} (h : IsRG w g gp N some st th ps) (hm : Mod nowhere w w') : IsRG w' g gp N some st th ps := h.keep hm id id
theorem IsRG.drew {w : World} {g gp N : Nat} {some : Bool} {st th : Int} {ps : List Int} (h : IsRG w g gp N some st th ps) : IsRG w.drew g gp N some st th ps := h
theorem IsRG.alloc {w : World} {g gp N : Nat} {some : Bool} {st th : Int} {ps : List Int} (h : IsRG w g gp N some st th ps) (o : Obj) : IsRG (w.alloc o) g gp N some st th ps := h.keep0 ((Mod.refl _ _).alloc o)
theorem IsRG.far {w : World} {g gp N : Nat} {some : Bool} {st th : Int} {ps : List Int} (h : IsRG w g gp N some st th ps) {p : Addr} {u : Value} (h1 : g ≠ p.block) (h2 : gp ≠ p.block) : IsRG (w.setCell p u) g gp N some st th ps :=
  h.keep (S := fun b => b = p.block) (Mod.setCell (S := fun b => b = p.block) (Mod.refl _ _) (.inl rfl) u) h1 h2

/-- A senior that may be. -/
def GSt (N : Nat) (some : Bool) (st th : Int) : Prop := (some = false ∧ st = 0 ∧ th = 0) ∨ (some = true ∧ 0 ≤ st ∧ st ≤ 1099511627776 ∧ 0 ≤ th ∧ th < N)
def codeF (some : Bool) (st th : Int) : Int := if some = true then st * 8 + th + 1 else 0
def swR (N : Nat) (some : Bool) (st th : Int) (b : Bool) (xs xt S T : Int) : Bool := decide (0 ≤ S ∧ 0 ≤ T ∧ T < N ∧ b = some ∧ (b = true → xs = st ∧ xt = th))
def lvR (some : Bool) (st th S T : Int) : Bool := decide (some = true ∧ st = S ∧ th = T)

theorem gswap_F (N g gw gp : Nat) (some : Bool) (st th : Int) (b : Bool) (xs xt xp S T : Int) (ps : List Int) (w : World) (h : IsGate w g gw gp N (codeF some st th) ps) (hN : N ≤ 6) (hG : GSt N some st th) (hx : xs ≤ 1099511627776) (hS : S ≤ 1099511627776) :
    Calls Try.prog 16 #[.pointer (.some ⟨g, 0, none⟩), sightV b xs xt xp, .int .i64 S, .int .i64 T] w
      fun e w' => e = .returned (.bool (swR N some st th b xs xt S T)) ∧ IsGate w' g gw gp N (if swR N some st th b xs xt S T = true then codeF true S T else codeF some st th) ps ∧ Mod (· = gw) w w' := by
  have no : swR N some st th b xs xt S T = false → (Calls Try.prog 16 #[.pointer (.some ⟨g, 0, none⟩), sightV b xs xt xp, .int .i64 S, .int .i64 T] w fun e w' => e = .returned (.bool false) ∧ IsGate w' g gw gp N (codeF some st th) ps ∧ Mod (· = gw) w w') →
      Calls Try.prog 16 #[.pointer (.some ⟨g, 0, none⟩), sightV b xs xt xp, .int .i64 S, .int .i64 T] w
      fun e w' => e = .returned (.bool (swR N some st th b xs xt S T)) ∧ IsGate w' g gw gp N (if swR N some st th b xs xt S T = true then codeF true S T else codeF some st th) ps ∧ Mod (· = gw) w w' := by
    intro hr hc
    rw [hr]
    simpa using hc
  have yes : swR N some st th b xs xt S T = true → (Calls Try.prog 16 #[.pointer (.some ⟨g, 0, none⟩), sightV b xs xt xp, .int .i64 S, .int .i64 T] w fun e w' => e = .returned (.bool true) ∧ IsGate w' g gw gp N (S * 8 + T + 1) ps ∧ Mod (· = gw) w w') →
      Calls Try.prog 16 #[.pointer (.some ⟨g, 0, none⟩), sightV b xs xt xp, .int .i64 S, .int .i64 T] w
      fun e w' => e = .returned (.bool (swR N some st th b xs xt S T)) ∧ IsGate w' g gw gp N (if swR N some st th b xs xt S T = true then codeF true S T else codeF some st th) ps ∧ Mod (· = gw) w w' := by
    intro hr hc
    rw [hr]
    simpa [codeF] using hc
  have still : ∀ {e : Ending} {w' : World}, (e = .returned (.bool false) ∧ Mod nowhere w w') → (e = .returned (.bool false) ∧ IsGate w' g gw gp N (codeF some st th) ps ∧ Mod (· = gw) w w') :=
    fun ⟨h1, h2⟩ => ⟨h1, h.keep0 h2, h2.mono fun _ h => h.elim⟩
  by_cases hT : T < 0 ∨ (N : Int) ≤ T
  · exact no (decide_eq_false (by omega)) ((gswap_bad1 b xs xt xp S T g gw gp N _ ps w h hT).mono fun _ _ h => still h)
  have hT0 : 0 ≤ T := by omega
  have hT1 : T < N := by omega
  by_cases hS0 : S < 0
  · exact no (decide_eq_false (by omega)) ((gswap_bad2 b xs xt xp S T g gw gp N _ ps w h hT0 hT1 hS0).mono fun _ _ h => still h)
  have hS1 : 0 ≤ S := by omega
  cases b with
  | false =>
    rcases hG with ⟨rfl, rfl, rfl⟩ | ⟨rfl, h1, h2, h3, h4⟩
    · exact yes (decide_eq_true ⟨hS1, hT0, hT1, rfl, fun h => by cases h⟩) (gswap_none_yes xs xt xp S T g gw gp N _ ps w h hT0 hT1 hN hS1 hS rfl)
    · exact no (decide_eq_false (by rintro ⟨_, _, _, h, _⟩; cases h)) (gswap_none_no xs xt xp S T g gw gp N _ ps w h hT0 hT1 hN hS1 hS (by simp only [codeF, if_true]; omega))
  | true =>
    by_cases hb : xt < 0 ∨ (N : Int) ≤ xt
    · refine no (decide_eq_false ?_) ((gswap_bad3 xs xt xp S T g gw gp N _ ps w h hT0 hT1 hS1 hb).mono fun _ _ h => still h)
      rintro ⟨_, _, _, rfl, h9⟩
      have := h9 rfl
      rcases hG with ⟨h5, _⟩ | ⟨_, h1, h2, h3, h4⟩
      · cases h5
      · omega
    by_cases hq : xs < 0
    · refine no (decide_eq_false ?_) ((gswap_bad4 xs xt xp S T g gw gp N _ ps w h hT0 hT1 hS1 (by omega) (by omega) hq).mono fun _ _ h => still h)
      rintro ⟨_, _, _, rfl, h9⟩
      have := h9 rfl
      rcases hG with ⟨h5, _⟩ | ⟨_, h1, h2, h3, h4⟩
      · cases h5
      · omega
    by_cases hc : codeF some st th = xs * 8 + xt + 1
    · refine yes (decide_eq_true ⟨hS1, hT0, hT1, ?_, ?_⟩) (gswap_some_yes xs xt xp S T g gw gp N _ ps w h hT0 hT1 hN hS1 hS (by omega) (by omega) (by omega) hx hc)
      · rcases hG with ⟨rfl, rfl, rfl⟩ | ⟨rfl, h1, h2, h3, h4⟩
        · simp only [codeF, Bool.false_eq_true, if_false] at hc; omega
        · rfl
      · intro _
        rcases hG with ⟨rfl, rfl, rfl⟩ | ⟨rfl, h1, h2, h3, h4⟩
        · simp only [codeF, Bool.false_eq_true, if_false] at hc; omega
        · simp only [codeF, if_true] at hc; omega
    · refine no (decide_eq_false ?_) (gswap_some_no xs xt xp S T g gw gp N _ ps w h hT0 hT1 hN hS1 hS (by omega) (by omega) (by omega) hx hc)
      rintro ⟨_, _, _, rfl, h9⟩
      obtain ⟨rfl, rfl⟩ := h9 rfl
      exact hc rfl
theorem gleave_F (N g gw gp : Nat) (some : Bool) (st th S T : Int) (ps : List Int) (w : World) (h : IsGate w g gw gp N (codeF some st th) ps) (hN : N ≤ 6) (hG : GSt N some st th) (hS : S ≤ 1099511627776) :
    Calls Try.prog 20 #[.pointer (.some ⟨g, 0, none⟩), .int .i64 S, .int .i64 T] w
      fun e w' => e = .returned (.bool (lvR some st th S T)) ∧ IsGate w' g gw gp N (if lvR some st th S T = true then 0 else codeF some st th) ps ∧ Mod (· = gw) w w' := by
  have still : ∀ {e : Ending} {w' : World}, (e = .returned (.bool false) ∧ Mod nowhere w w') → (e = .returned (.bool false) ∧ IsGate w' g gw gp N (codeF some st th) ps ∧ Mod (· = gw) w w') :=
    fun ⟨h1, h2⟩ => ⟨h1, h.keep0 h2, h2.mono fun _ h => h.elim⟩
  have no : lvR some st th S T = false → (Calls Try.prog 20 #[.pointer (.some ⟨g, 0, none⟩), .int .i64 S, .int .i64 T] w fun e w' => e = .returned (.bool false) ∧ IsGate w' g gw gp N (codeF some st th) ps ∧ Mod (· = gw) w w') →
      Calls Try.prog 20 #[.pointer (.some ⟨g, 0, none⟩), .int .i64 S, .int .i64 T] w
      fun e w' => e = .returned (.bool (lvR some st th S T)) ∧ IsGate w' g gw gp N (if lvR some st th S T = true then 0 else codeF some st th) ps ∧ Mod (· = gw) w w' := by
    intro hr hc
    rw [hr]
    simpa using hc
  have bad : ¬ (0 ≤ T ∧ T < N ∧ 0 ≤ S) → lvR some st th S T = false := by
    intro hb
    refine decide_eq_false ?_
    rintro ⟨rfl, rfl, rfl⟩
    rcases hG with ⟨h5, _⟩ | ⟨_, h1, h2, h3, h4⟩
    · cases h5
    · exact hb ⟨h3, h4, h1⟩
  by_cases hT : T < 0 ∨ (N : Int) ≤ T
  · exact no (bad (by omega)) ((gleave_bad1 S T g gw gp N _ ps w h hT).mono fun _ _ h => still h)
  by_cases hS0 : S < 0
  · exact no (bad (by omega)) ((gleave_bad2 S T g gw gp N _ ps w h (by omega) (by omega) hS0).mono fun _ _ h => still h)
  by_cases hc : codeF some st th = S * 8 + T + 1
  · have hr : lvR some st th S T = true := by
      refine decide_eq_true ?_
      rcases hG with ⟨rfl, rfl, rfl⟩ | ⟨rfl, h1, h2, h3, h4⟩
      · simp only [codeF, Bool.false_eq_true, if_false] at hc; omega
      · simp only [codeF, if_true] at hc; exact ⟨rfl, by omega, by omega⟩
    rw [hr]
    simpa using gleave_yes S T g gw gp N _ ps w h (by omega) (by omega) hN (by omega) hS hc
  · refine no (decide_eq_false ?_) (gleave_no S T g gw gp N _ ps w h (by omega) (by omega) hN (by omega) hS hc)
    rintro ⟨rfl, rfl, rfl⟩
    exact hc (by simp [codeF])
def seeV (some : Bool) (st th p : Int) : Value := if some = true then sightV true st th p else sightV false 0 0 0
theorem see_F (N g gw gp : Nat) (some : Bool) (st th p : Int) (ps : List Int) (w : World) (h : IsGate w g gw gp N (codeF some st th) ps) (hN : N ≤ 6) (hG : GSt N some st th) (hp : some = true → ps[th.toNat]? = .some p) :
    Calls Try.prog 15 #[.pointer (.some ⟨g, 0, none⟩)] w fun e w' => e = .returned (seeV some st th p) ∧ IsGate w' g gw gp N (codeF some st th) ps ∧ Mod (· = gw) w w' := by
  rcases hG with ⟨rfl, rfl, rfl⟩ | ⟨rfl, h1, h2, h3, h4⟩
  · exact see_none g gw gp N ps w h
  · obtain ⟨t, rfl⟩ := Int.eq_ofNat_of_zero_le h3
    exact see_some g gw gp N st t p ps w h h1 h2 (by omega) hN (by simpa using hp rfl)
end Go.Proofs.Ytiklhnngkebkeaa
