/- The law FloorMade where all is well: manager 4. -/
import Derived.Test.YtcfpgecchappoaaFloorN
namespace Go.Proofs.Ytcfpgecchappoaa.mgr4
open Go.RowKit

theorem m_marks (w : World) : (method 273 136 (.agg #[]) "Marks").run Try.prog w = .ok (96, .agg #[]) w := by kernel_rfl
theorem marks_calls (w : World) : Calls Try.prog 96 #[.agg #[]] w fun e w' => e = .returned (.bool true) ∧ Mod nowhere w w' := by
  go_enter Try.func96, Try.ntmps96
  go_wp2
  go_ret
  exact ⟨rfl, (by repeat (first | with_reducible exact Mod.refl _ _ | with_reducible assumption | with_reducible refine Mod.alloc ?_ _ | with_reducible refine Mod.drew ?_ | with_reducible refine Mod.drewN ?_ _ | with_reducible refine Mod.setCell ?_ (by first | exact .inl rfl | (left; (try unfold from_); show _ ≤ _; first | omega | (simp; done) | (simp; omega)) | (right; first | omega | (simp; done) | (simp; omega))) _ | with_reducible refine Mod.call0 ?_ (by with_reducible assumption) | with_reducible refine Mod.call ?_ (by with_reducible assumption) (by first | (rintro _ rfl; first | exact .inl rfl | (right; (first | omega | (simp; done) | (simp; omega)))) | (rintro _ (rfl | rfl) <;> (right; (first | omega | (simp; done) | (simp; omega)))))))⟩

set_option maxRecDepth 100000 in
set_option maxHeartbeats 20000000 in
theorem made_0 (A : Option Addr) (n cap k1 k3 : Nat) (l : List Int) (w : World) (c2 c5 : Int) (hl : l.length = n) (hr : Reads w w.heap.size 1 A n (l.map (Value.int .i64))) (hC : CfgOk n k1 c2 k3 4 c5) (hK : 2 * (n : Int) ≤ c2) :
    Calls Try.prog 6 #[.agg #[.int .i64 (n : Int), .int .i64 (k1 : Int), .int .i64 c2, .int .i64 (k3 : Int), .int .i64 4, .int .i64 c5], .slice A n cap] w
     fun en w' => en = .returned (.bool true) ∧ Mod nowhere w w' := by
  have n1 : 1 ≤ n := by have := hC.1; omega
  have n8 : n ≤ 8 := by have := hC.1; omega
  have t1 : 1 ≤ k1 := by have := hC.2.1; omega
  have t6 : k1 ≤ 6 := by have := hC.2.1; omega
  have q1 : c2 ≤ 4096 := by have := hC.2.2.1; omega
  have q3 : k3 ≤ 255 := by have := hC.2.2.2.1; omega
  have hfi : ∀ w, Sem.run Try.prog (Instr.field 64 (sightV false 0 0 0) 0) w = .ok (.bool false) w := fun _ => by kernel_rfl
  have hmm := m_marks
  have iw1 : IntKind.i64.wrap (2 * (n : Int)) = 2 * (n : Int) := IntWalk.i64_in _ (by omega)
  have iw2 : IntKind.i64.wrap (c2 - 2 * (n : Int)) = c2 - 2 * (n : Int) := IntWalk.i64_in _ (by omega)
  have iw3 : IntKind.i64.wrap ((k1 : Int) - 1) = (k1 : Int) - 1 := IntWalk.i64_in _ (by omega)
  obtain ⟨b, o, rfl, hbl, hx⟩ := hr.form (by omega) (by omega)
  have HX := hide hx
  have HR := hide hr
  have HL := hide hl
  have HC := hide hC
  clear hx hr hl hC
  go_enter Try.func6, Try.ntmps6
  go_wp2_with fail
  obtain ⟨W, hW⟩ : ∃ W, W = w.alloc (.cells #[.int .i64 (n : Int), .int .i64 (k1 : Int), .int .i64 c2, .int .i64 (k3 : Int), .int .i64 4, .int .i64 c5] 29) := ⟨_, rfl⟩
  have hb : Blk W w.heap.size 29 #[.int .i64 (n : Int), .int .i64 (k1 : Int), .int .i64 c2, .int .i64 (k3 : Int), .int .i64 4, .int .i64 c5] := by rw [hW]; exact Blk.new _ _ _
  have yW : Mod nowhere w W := by rw [hW]; exact (Mod.refl _ _).alloc _
  rw [← hW]
  clear hW
  (with_reducible refine (alive13_calls _).mono ?_)
  rintro e w1 ⟨rfl, hm1⟩
  have hb1 := hb.keep0 hm1
  have y1 := yW.call0 hm1
  clear hm1 yW hb
  have lW := hb1.lt
  have zw1 := y1.size
  have c_hb1 := hb1.cell; have f_hb1 := hb1.frozen; have l_hb1 := hb1.lt
  go_wp2_with fail
  (with_reducible refine (fnew_calls l [] b o cap n none 0 0 k1 136 c2 (k3 : Int) 4 c5 w1 rfl HL.out HC.out hK (by omega) (fun k x hk => (y1.cell (o + k) hbl id).trans (HX.out k _ (by simp [hk]))) Reads.none_ rfl (by omega)).mono ?_)
  rintro e w2 ⟨p, rfl, hF⟩
  obtain ⟨P, D, r, cs, rfl, a1, a2, a3, a4, a5, a6, a7, a8, a9, hFi, hA, HP, hm2⟩ := hF.flox
  obtain ⟨B, hB⟩ : ∃ B, B = w1.heap.size := ⟨_, rfl⟩
  rw [← hB] at hA
  have HPF : ¬ P w.heap.size := fun x => by have := HP _ x; omega
  have HPW : ∀ b, P b → w.heap.size ≤ b := fun b x => by have := HP b x; omega
  have HA1 := hide a1
  have HA2 := hide a2
  have HA3 := hide a3
  have HA4 := hide a4
  have HA5 := hide a5
  have HA6 := hide a6
  have HA7 := hide a7
  have HA8 := hide a8
  have HA9 := hide a9
  have HFi := hide hFi
  have HA := hide hA
  have y2 := y1.call0 hm2
  have hb2 := hb1.keep0 hm2
  have z2 := hm2.size
  clear hF a1 a2 a3 a4 a5 a6 a7 a8 a9 hFi hA hm2 y1 hb1 c_hb1 f_hb1 l_hb1 HP hB
  have c_hb2 := hb2.cell; have f_hb2 := hb2.frozen; have l_hb2 := hb2.lt
  go_wp2_with fail
  (with_reducible refine (rnew_0 (some ⟨b, o, none⟩) n cap (n : Int) (k1 : Int) c2 (k3 : Int) 4 c5 _ HC.out rfl (by omega) hK).mono ?_)
  rintro e w3 ⟨rfl, hm3⟩
  have y3 := y2.call0 hm3
  have hb3 := hb2.keep0 hm3
  have HA3' := hide (HA.out.keep0 hm3)
  have z3 := hm3.size
  clear hm3 y2 hb2 c_hb2 f_hb2 l_hb2 HA
  have c_hb3 := hb3.cell; have f_hb3 := hb3.frozen; have l_hb3 := hb3.lt
  go_wp2_with fail
  go_region_held3 (fun w' => w'.cell? ⟨w.heap.size, 0, none⟩ = some (.int .i64 (n : Int)) ∧ w'.cell? ⟨w.heap.size, 1, none⟩ = some (.int .i64 (k1 : Int)) ∧ w'.cell? ⟨w.heap.size, 2, none⟩ = some (.int .i64 c2) ∧ w'.cell? ⟨w.heap.size, 3, none⟩ = some (.int .i64 (k3 : Int)) ∧ w'.cell? ⟨w.heap.size, 4, none⟩ = some (.int .i64 4) ∧ w'.cell? ⟨w.heap.size, 5, none⟩ = some (.int .i64 c5) ∧ Mod nowhere w3 w') ((repeat' apply And.intro) <;> first | (simp [*]; done) | (go_simp; done) | exact (by repeat (first | with_reducible exact Mod.refl _ _ | with_reducible assumption | with_reducible refine Mod.alloc ?_ _ | with_reducible refine Mod.drew ?_ | with_reducible refine Mod.drewN ?_ _ | with_reducible refine Mod.setCell ?_ (by first | exact .inl rfl | (left; (try unfold from_); show _ ≤ _; first | omega | (simp; done) | (simp; omega)) | (right; first | omega | (simp; done) | (simp; omega))) _ | with_reducible refine Mod.call0 ?_ (by with_reducible assumption) | with_reducible refine Mod.call ?_ (by with_reducible assumption) (by first | (rintro _ rfl; first | exact .inl rfl | (right; (first | omega | (simp; done) | (simp; omega)))) | (rintro _ (rfl | rfl) <;> (right; (first | omega | (simp; done) | (simp; omega)))))))) (first
  | (go_at_call 24; (with_reducible refine (check_yes (n : Int) (k1 : Int) c2 (k3 : Int) 4 c5 _ HC.out).mono ?_); rintro e w5 ⟨rfl, hbw5⟩; have hzw5 := hbw5.size; (try simp at hzw5); (try (have ltw50 : w.heap.size < w5.heap.size := (by omega); have lcw50 := fun o => hbw5.cell (b := w.heap.size) o (by first | omega | (simp; done) | (simp; omega)) (id); have lfw50 := fun o => hbw5.frozen (b := w.heap.size) o (by first | omega | (simp; done) | (simp; omega)) (id))); skip)
  | (go_at_call 25; (with_reducible refine (rcheck_yes (n : Int) (k1 : Int) c2 (k3 : Int) 4 c5 _ HC.out).mono ?_); rintro e w6 ⟨rfl, hbw6⟩; have hzw6 := hbw6.size; (try simp at hzw6); (try (have ltw60 : w.heap.size < w6.heap.size := (by omega); have lcw60 := fun o => hbw6.cell (b := w.heap.size) o (by first | omega | (simp; done) | (simp; omega)) (id); have lfw60 := fun o => hbw6.frozen (b := w.heap.size) o (by first | omega | (simp; done) | (simp; omega)) (id))); skip))
  go_wp2_with fail
  (with_reducible refine (xmanager _ (HA3'.out.keep0 ((by repeat (first | with_reducible exact Mod.refl _ _ | with_reducible assumption | with_reducible refine Mod.alloc ?_ _ | with_reducible refine Mod.drew ?_ | with_reducible refine Mod.drewN ?_ _ | with_reducible refine Mod.setCell ?_ (by first | exact .inl rfl | (left; (try unfold from_); show _ ≤ _; first | omega | (simp; done) | (simp; omega)) | (right; first | omega | (simp; done) | (simp; omega))) _ | with_reducible refine Mod.call0 ?_ (by with_reducible assumption) | with_reducible refine Mod.call ?_ (by with_reducible assumption) (by first | (rintro _ rfl; first | exact .inl rfl | (right; (first | omega | (simp; done) | (simp; omega)))) | (rintro _ (rfl | rfl) <;> (right; (first | omega | (simp; done) | (simp; omega))))))) : Mod nowhere w3 _)) _ HA7.out).mono ?_)
  rintro e w8 ⟨rfl, hA8, hm8⟩
  have m38 : Mod P w3 w8 := Mod.trans (Mod.mono ((by repeat (first | with_reducible exact Mod.refl _ _ | with_reducible assumption | with_reducible refine Mod.alloc ?_ _ | with_reducible refine Mod.drew ?_ | with_reducible refine Mod.drewN ?_ _ | with_reducible refine Mod.setCell ?_ (by first | exact .inl rfl | (left; (try unfold from_); show _ ≤ _; first | omega | (simp; done) | (simp; omega)) | (right; first | omega | (simp; done) | (simp; omega))) _ | with_reducible refine Mod.call0 ?_ (by with_reducible assumption) | with_reducible refine Mod.call ?_ (by with_reducible assumption) (by first | (rintro _ rfl; first | exact .inl rfl | (right; (first | omega | (simp; done) | (simp; omega)))) | (rintro _ (rfl | rfl) <;> (right; (first | omega | (simp; done) | (simp; omega))))))) : Mod nowhere w3 _) fun _ x => x.elim) hm8
  have hb8 := hb3.keep m38 HPF
  have y8 : Mod nowhere w w8 := y3.call m38 (fun b hb => .inr (HPW b hb))
  have l8 := hb8.lt
  have c_hb8 := hb8.cell; have f_hb8 := hb8.frozen; have l_hb8 := hb8.lt
  have HAA8 := hide hA8
  go_wp2_with fail
  have hX8 := HAA8.out
  go_region_held3 (fun w' => w'.cell? ⟨w.heap.size, 0, none⟩ = some (.int .i64 (n : Int)) ∧ w'.cell? ⟨w.heap.size, 1, none⟩ = some (.int .i64 (k1 : Int)) ∧ w'.cell? ⟨w.heap.size, 2, none⟩ = some (.int .i64 c2) ∧ w'.cell? ⟨w.heap.size, 3, none⟩ = some (.int .i64 (k3 : Int)) ∧ w'.cell? ⟨w.heap.size, 4, none⟩ = some (.int .i64 4) ∧ w'.cell? ⟨w.heap.size, 5, none⟩ = some (.int .i64 c5) ∧ FloX P D B r (2 * n) cs 0 w' ∧ Mod P w8 w') (((repeat' apply And.intro) <;> first | (simp [*]; done) | (go_simp; done) | (with_reducible assumption) | (exact FloX.drew (by with_reducible assumption)) | ((repeat (first | with_reducible assumption | with_reducible exact Mod.refl _ _ | with_reducible refine Mod.drew ?_ | with_reducible refine Mod.trans ?_ (by with_reducible assumption))); done))) (first
    | (go_at_call 96; (obtain ⟨-, -, -, -, -, -, hX0, hM0⟩ := (by with_reducible assumption : _ ∧ _ ∧ _ ∧ _ ∧ _ ∧ _ ∧ FloX P D B r (2 * n) cs 0 _ ∧ Mod P w8 _)); (with_reducible refine (marks_calls _).mono ?_); rintro e w20 ⟨rfl, hn20⟩; have h20 := hX0.keep0 hn20; have hm20 : Mod P _ w20 := hn20.mono (fun _ x => x.elim); have hz20 := hm20.size; (try simp at hz20); (try (have ltw200 : w.heap.size < w20.heap.size := (by omega); have lcw200 := fun o => hm20.cell (b := w.heap.size) o (by first | omega | (simp; done) | (simp; omega)) (HPF); have lfw200 := fun o => hm20.frozen (b := w.heap.size) o (by first | omega | (simp; done) | (simp; omega)) (HPF))))
    | (go_at_call 15; (obtain ⟨-, -, -, -, -, -, hX0, hM0⟩ := (by with_reducible assumption : _ ∧ _ ∧ _ ∧ _ ∧ _ ∧ _ ∧ FloX P D B r (2 * n) cs 0 _ ∧ Mod P w8 _)); (with_reducible refine (xconfig _ hX0 (n : Int) (k1 : Int) c2 (k3 : Int) 4 c5 HA2.out (by rw [HA1.out]) HA3.out HA4.out HA5.out HA6.out).mono ?_); rintro e w21 ⟨rfl, hw21, hmw21⟩; have hzw21 := hmw21.size; (try simp at hzw21); (try (have ltw210 : w.heap.size < w21.heap.size := (by omega); have lcw210 := fun o => hmw21.cell (b := w.heap.size) o (by first | omega | (simp; done) | (simp; omega)) (HPF); have lfw210 := fun o => hmw21.frozen (b := w.heap.size) o (by first | omega | (simp; done) | (simp; omega)) (HPF))))
    | (go_at_call 16; (obtain ⟨-, -, -, -, -, -, hX0, hM0⟩ := (by with_reducible assumption : _ ∧ _ ∧ _ ∧ _ ∧ _ ∧ _ ∧ FloX P D B r (2 * n) cs 0 _ ∧ Mod P w8 _)); (with_reducible refine (xarena _ hX0).mono ?_); rintro e w22 ⟨rfl, hw22, hmw22⟩; have hzw22 := hmw22.size; (try simp at hzw22); (try (have ltw220 : w.heap.size < w22.heap.size := (by omega); have lcw220 := fun o => hmw22.cell (b := w.heap.size) o (by first | omega | (simp; done) | (simp; omega)) (HPF); have lfw220 := fun o => hmw22.frozen (b := w.heap.size) o (by first | omega | (simp; done) | (simp; omega)) (HPF))))
    | (go_at_call 26; (obtain ⟨-, -, -, -, -, -, hX0, hM0⟩ := (by with_reducible assumption : _ ∧ _ ∧ _ ∧ _ ∧ _ ∧ _ ∧ FloX P D B r (2 * n) cs 0 _ ∧ Mod P w8 _)); (with_reducible refine (xalen _ hX0 (2 * (n : Int)) (by omega)).mono ?_); rintro e w23 ⟨rfl, hw23, hmw23⟩; have hzw23 := hmw23.size; (try simp at hzw23); (try (have ltw230 : w.heap.size < w23.heap.size := (by omega); have lcw230 := fun o => hmw23.cell (b := w.heap.size) o (by first | omega | (simp; done) | (simp; omega)) (HPF); have lfw230 := fun o => hmw23.frozen (b := w.heap.size) o (by first | omega | (simp; done) | (simp; omega)) (HPF))))
    | (go_at_call 27; (obtain ⟨-, -, -, -, -, -, hX0, hM0⟩ := (by with_reducible assumption : _ ∧ _ ∧ _ ∧ _ ∧ _ ∧ _ ∧ FloX P D B r (2 * n) cs 0 _ ∧ Mod P w8 _)); (with_reducible refine (xaleft _ hX0 (c2 - 2 * (n : Int)) (by rw [HA9.out]; omega)).mono ?_); rintro e w24 ⟨rfl, hw24, hmw24⟩; have hzw24 := hmw24.size; (try simp at hzw24); (try (have ltw240 : w.heap.size < w24.heap.size := (by omega); have lcw240 := fun o => hmw24.cell (b := w.heap.size) o (by first | omega | (simp; done) | (simp; omega)) (HPF); have lfw240 := fun o => hmw24.frozen (b := w.heap.size) o (by first | omega | (simp; done) | (simp; omega)) (HPF))))
    | (go_at_call 17; (obtain ⟨-, -, -, -, -, -, hX0, hM0⟩ := (by with_reducible assumption : _ ∧ _ ∧ _ ∧ _ ∧ _ ∧ _ ∧ FloX P D B r (2 * n) cs 0 _ ∧ Mod P w8 _)); (with_reducible refine (xtable _ hX0).mono ?_); rintro e w25 ⟨rfl, hw25, hmw25⟩; have hzw25 := hmw25.size; (try simp at hzw25); (try (have ltw250 : w.heap.size < w25.heap.size := (by omega); have lcw250 := fun o => hmw25.cell (b := w.heap.size) o (by first | omega | (simp; done) | (simp; omega)) (HPF); have lfw250 := fun o => hmw25.frozen (b := w.heap.size) o (by first | omega | (simp; done) | (simp; omega)) (HPF))))
    | (go_at_call 28; (obtain ⟨-, -, -, -, -, -, hX0, hM0⟩ := (by with_reducible assumption : _ ∧ _ ∧ _ ∧ _ ∧ _ ∧ _ ∧ FloX P D B r (2 * n) cs 0 _ ∧ Mod P w8 _)); (with_reducible refine (xcount _ hX0).mono ?_); rintro e w26 ⟨rfl, hw26, hmw26⟩; have hzw26 := hmw26.size; (try simp at hzw26); (try (have ltw260 : w.heap.size < w26.heap.size := (by omega); have lcw260 := fun o => hmw26.cell (b := w.heap.size) o (by first | omega | (simp; done) | (simp; omega)) (HPF); have lfw260 := fun o => hmw26.frozen (b := w.heap.size) o (by first | omega | (simp; done) | (simp; omega)) (HPF))))
    | (go_at_call 18; (obtain ⟨-, -, -, -, -, -, hX0, hM0⟩ := (by with_reducible assumption : _ ∧ _ ∧ _ ∧ _ ∧ _ ∧ _ ∧ FloX P D B r (2 * n) cs 0 _ ∧ Mod P w8 _)); (with_reducible refine (xcells _ hX0).mono ?_); rintro e w27 ⟨rfl, hw27, hmw27⟩; have hzw27 := hmw27.size; (try simp at hzw27); (try (have ltw270 : w.heap.size < w27.heap.size := (by omega); have lcw270 := fun o => hmw27.cell (b := w.heap.size) o (by first | omega | (simp; done) | (simp; omega)) (HPF); have lfw270 := fun o => hmw27.frozen (b := w.heap.size) o (by first | omega | (simp; done) | (simp; omega)) (HPF))))
    | (go_at_call 29; (obtain ⟨-, -, -, -, -, -, hX0, hM0⟩ := (by with_reducible assumption : _ ∧ _ ∧ _ ∧ _ ∧ _ ∧ _ ∧ FloX P D B r (2 * n) cs 0 _ ∧ Mod P w8 _)); (with_reducible refine (xobj _ hX0 (n : Int) (by rw [HA8.out])).mono ?_); rintro e w28 ⟨rfl, hw28, hmw28⟩; have hzw28 := hmw28.size; (try simp at hzw28); (try (have ltw280 : w.heap.size < w28.heap.size := (by omega); have lcw280 := fun o => hmw28.cell (b := w.heap.size) o (by first | omega | (simp; done) | (simp; omega)) (HPF); have lfw280 := fun o => hmw28.frozen (b := w.heap.size) o (by first | omega | (simp; done) | (simp; omega)) (HPF))))
    | (go_at_call 19; (obtain ⟨-, -, -, -, -, -, hX0, hM0⟩ := (by with_reducible assumption : _ ∧ _ ∧ _ ∧ _ ∧ _ ∧ _ ∧ FloX P D B r (2 * n) cs 0 _ ∧ Mod P w8 _)); (with_reducible refine (xtickets _ hX0).mono ?_); rintro e w29 ⟨rfl, hw29, hmw29⟩; have hzw29 := hmw29.size; (try simp at hzw29); (try (have ltw290 : w.heap.size < w29.heap.size := (by omega); have lcw290 := fun o => hmw29.cell (b := w.heap.size) o (by first | omega | (simp; done) | (simp; omega)) (HPF); have lfw290 := fun o => hmw29.frozen (b := w.heap.size) o (by first | omega | (simp; done) | (simp; omega)) (HPF))))
    | (go_at_call 30; (obtain ⟨-, -, -, -, -, -, hX0, hM0⟩ := (by with_reducible assumption : _ ∧ _ ∧ _ ∧ _ ∧ _ ∧ _ ∧ FloX P D B r (2 * n) cs 0 _ ∧ Mod P w8 _)); (with_reducible refine (xtaken _ hX0 0 rfl).mono ?_); rintro e w30 ⟨rfl, hw30, hmw30⟩; have hzw30 := hmw30.size; (try simp at hzw30); (try (have ltw300 : w.heap.size < w30.heap.size := (by omega); have lcw300 := fun o => hmw30.cell (b := w.heap.size) o (by first | omega | (simp; done) | (simp; omega)) (HPF); have lfw300 := fun o => hmw30.frozen (b := w.heap.size) o (by first | omega | (simp; done) | (simp; omega)) (HPF))))
    | (go_at_call 20; (obtain ⟨-, -, -, -, -, -, hX0, hM0⟩ := (by with_reducible assumption : _ ∧ _ ∧ _ ∧ _ ∧ _ ∧ _ ∧ FloX P D B r (2 * n) cs 0 _ ∧ Mod P w8 _)); (with_reducible refine (xgate _ hX0).mono ?_); rintro e w31 ⟨rfl, hw31, hmw31⟩; have hzw31 := hmw31.size; (try simp at hzw31); (try (have ltw310 : w.heap.size < w31.heap.size := (by omega); have lcw310 := fun o => hmw31.cell (b := w.heap.size) o (by first | omega | (simp; done) | (simp; omega)) (HPF); have lfw310 := fun o => hmw31.frozen (b := w.heap.size) o (by first | omega | (simp; done) | (simp; omega)) (HPF))))
    | (go_at_call 31; (obtain ⟨-, -, -, -, -, -, hX0, hM0⟩ := (by with_reducible assumption : _ ∧ _ ∧ _ ∧ _ ∧ _ ∧ _ ∧ FloX P D B r (2 * n) cs 0 _ ∧ Mod P w8 _)); (with_reducible refine (xsee _ hX0).mono ?_); rintro e w32 ⟨rfl, hw32, hmw32⟩; have hzw32 := hmw32.size; (try simp at hzw32); (try (have ltw320 : w.heap.size < w32.heap.size := (by omega); have lcw320 := fun o => hmw32.cell (b := w.heap.size) o (by first | omega | (simp; done) | (simp; omega)) (HPF); have lfw320 := fun o => hmw32.frozen (b := w.heap.size) o (by first | omega | (simp; done) | (simp; omega)) (HPF)))))
  obtain ⟨-, -, -, -, -, -, hX9, m89⟩ := (by with_reducible assumption : _ ∧ _ ∧ _ ∧ _ ∧ _ ∧ _ ∧ FloX P D B r (2 * n) cs 0 _ ∧ Mod P w8 _)
  have hb9 := hb8.keep m89 HPF
  have y9 : Mod nowhere w _ := y8.call m89 (fun b hb => .inr (HPW b hb))
  have HX9 := hide hX9
  have HB9 := hide hb9
  have HY9 := hide y9
  clear hX9 m89 hb9 y9 y8 hb8 c_hb8 f_hb8 l_hb8 hX8
  go_wp2_with fail
  go_loopw [9, 10, 11] (fun s9 _ _ wx => ∃ i : Nat, s9 = .int .i64 i ∧ i ≤ k3 ∧ FloX P D B r (2 * n) cs (i : Int) wx ∧ Blk wx w.heap.size 29 #[.int .i64 (n : Int), .int .i64 (k1 : Int), .int .i64 c2, .int .i64 (k3 : Int), .int .i64 4, .int .i64 c5] ∧ Mod nowhere w wx)
    (fun s9 _ _ _ => (2000 - (intOf s9)).toNat)
  case atStart => exact ⟨0, rfl, Nat.zero_le _, HX9.out, HB9.out, HY9.out⟩
  case round =>
    obtain ⟨i, rfl, hik, hX, hb, hmr⟩ := hrel
    clear HX9 HB9 HY9
    have HX' := hide hX
    clear hX
    have lr := hb.lt
    have c_hb := hb.cell; have f_hb := hb.frozen; have l_hb := hb.lt
    by_cases hlt : i < k3
    · have hlt' : (i : Int) < (k3 : Int) := by omega
      go_wp2_with fail
      (with_reducible refine (xtickets _ HX'.out).mono ?_)
      rintro e w40 ⟨rfl, h40, hm40⟩
      have hb40 := hb.keep hm40 HPF
      have y40 : Mod nowhere w w40 := hmr.call hm40 (fun b hb => .inr (HPW b hb))
      have H40 := hide h40
      clear h40 hm40
      go_wp2_with fail
      (with_reducible refine (xtake w40 H40.out (i : Int) rfl (by omega) (by rw [HA4.out]; omega) (by rw [HA4.out]; omega)).mono ?_)
      rintro e w41 ⟨rfl, h41, hm41⟩
      have hb41 := hb40.keep hm41 HPF
      have y41 : Mod nowhere w w41 := y40.call hm41 (fun b hb => .inr (HPW b hb))
      have H41 := hide h41
      clear h41 hm41 hb40 y40
      go_wp2
      go_roundw
      case rel => exact ⟨i + 1, by go_num, by omega, by have := H41.out; rwa [show ((i + 1 : Nat) : Int) = (i : Int) + 1 from by omega], hb41, y41⟩
      case measure => simp [intOf] <;> omega
    · obtain rfl : i = k3 := by omega
      go_wp2_with fail
      (with_reducible refine (xtickets _ HX'.out).mono ?_)
      rintro e w40 ⟨rfl, h40, hm40⟩
      have hb40 := hb.keep hm40 HPF
      have y40 : Mod nowhere w w40 := hmr.call hm40 (fun b hb => .inr (HPW b hb))
      have H40 := hide h40
      clear h40 hm40
      go_wp2_with fail
      (with_reducible refine (xtake_none w40 H40.out (by rw [HA4.out]; omega)).mono ?_)
      rintro e w41 ⟨rfl, h41, hm41⟩
      have hb41 := hb40.keep hm41 HPF
      have y41 : Mod nowhere w w41 := y40.call hm41 (fun b hb => .inr (HPW b hb))
      have l41 := hb41.lt
      clear hm41 hb40 y40 H40 c_hb f_hb l_hb HX'
      have H41 := hide h41
      have c_hb41 := hb41.cell; have f_hb41 := hb41.frozen; have l_hb41 := hb41.lt
      go_wp2_with fail
      have hX41 := H41.out
      go_region_held3 (fun w' => w'.cell? ⟨w.heap.size, 0, none⟩ = some (.int .i64 (n : Int)) ∧ w'.cell? ⟨w.heap.size, 1, none⟩ = some (.int .i64 (k1 : Int)) ∧ w'.cell? ⟨w.heap.size, 2, none⟩ = some (.int .i64 c2) ∧ w'.cell? ⟨w.heap.size, 3, none⟩ = some (.int .i64 (i : Int)) ∧ w'.cell? ⟨w.heap.size, 4, none⟩ = some (.int .i64 4) ∧ w'.cell? ⟨w.heap.size, 5, none⟩ = some (.int .i64 c5) ∧ FloX P D B r (2 * n) cs (i : Int) w' ∧ Mod P w41 w') (((repeat' apply And.intro) <;> first | (simp [*]; done) | (go_simp; done) | (with_reducible assumption) | (exact FloX.drew (by with_reducible assumption)) | ((repeat (first | with_reducible assumption | with_reducible exact Mod.refl _ _ | with_reducible refine Mod.drew ?_ | with_reducible refine Mod.trans ?_ (by with_reducible assumption))); done))) (first
    | (go_at_call 20; (obtain ⟨-, -, -, -, -, -, hX0, hM0⟩ := (by with_reducible assumption : _ ∧ _ ∧ _ ∧ _ ∧ _ ∧ _ ∧ FloX P D B r (2 * n) cs (i : Int) _ ∧ Mod P w41 _)); (with_reducible refine (xgate _ hX0).mono ?_); rintro e w51 ⟨rfl, hw51, hmw51⟩; have hzw51 := hmw51.size; (try simp at hzw51); (try (have ltw510 : w.heap.size < w51.heap.size := (by omega); have lcw510 := fun o => hmw51.cell (b := w.heap.size) o (by first | omega | (simp; done) | (simp; omega)) (HPF); have lfw510 := fun o => hmw51.frozen (b := w.heap.size) o (by first | omega | (simp; done) | (simp; omega)) (HPF))))
    | (go_at_call 33; (obtain ⟨-, -, -, -, -, -, hX0, hM0⟩ := (by with_reducible assumption : _ ∧ _ ∧ _ ∧ _ ∧ _ ∧ _ ∧ FloX P D B r (2 * n) cs (i : Int) _ ∧ Mod P w41 _)); (with_reducible refine (xbeat _ hX0 ((k1 : Int) - 1) (k1 - 1) (by omega) (by rw [HA1.out]; omega)).mono ?_); rintro e w52 ⟨rfl, hw52, hmw52⟩; have hzw52 := hmw52.size; (try simp at hzw52); (try (have ltw520 : w.heap.size < w52.heap.size := (by omega); have lcw520 := fun o => hmw52.cell (b := w.heap.size) o (by first | omega | (simp; done) | (simp; omega)) (HPF); have lfw520 := fun o => hmw52.frozen (b := w.heap.size) o (by first | omega | (simp; done) | (simp; omega)) (HPF))))
    | (go_at_call 33; (obtain ⟨-, -, -, -, -, -, hX0, hM0⟩ := (by with_reducible assumption : _ ∧ _ ∧ _ ∧ _ ∧ _ ∧ _ ∧ FloX P D B r (2 * n) cs (i : Int) _ ∧ Mod P w41 _)); (with_reducible refine (xbeat_bad _ hX0 (k1 : Int) (by rw [HA1.out]; omega)).mono ?_); rintro e w53 ⟨rfl, hw53, hmw53⟩; have hzw53 := hmw53.size; (try simp at hzw53); (try (have ltw530 : w.heap.size < w53.heap.size := (by omega); have lcw530 := fun o => hmw53.cell (b := w.heap.size) o (by first | omega | (simp; done) | (simp; omega)) (HPF); have lfw530 := fun o => hmw53.frozen (b := w.heap.size) o (by first | omega | (simp; done) | (simp; omega)) (HPF))))
    | (go_at_call 22; (obtain ⟨-, -, -, -, -, -, hX0, hM0⟩ := (by with_reducible assumption : _ ∧ _ ∧ _ ∧ _ ∧ _ ∧ _ ∧ FloX P D B r (2 * n) cs (i : Int) _ ∧ Mod P w41 _)); (with_reducible refine (xvalues _ hX0 l n HA8.out HL.out HFi.out (Nat.le_refl _)).mono ?_); rintro e w54 ⟨Av, cv, rfl, hrv, hw54, hmw54⟩; have hzw54 := hmw54.size; (try simp at hzw54); (try (have ltw540 : w.heap.size < w54.heap.size := (by omega); have lcw540 := fun o => hmw54.cell (b := w.heap.size) o (by first | omega | (simp; done) | (simp; omega)) (HPF); have lfw540 := fun o => hmw54.frozen (b := w.heap.size) o (by first | omega | (simp; done) | (simp; omega)) (HPF))))
    | (go_at_call 34; (obtain ⟨-, -, -, -, -, -, hX0, hM0⟩ := (by with_reducible assumption : _ ∧ _ ∧ _ ∧ _ ∧ _ ∧ _ ∧ FloX P D B r (2 * n) cs (i : Int) _ ∧ Mod P w41 _)); have yy : Mod nowhere w _ := y41.call hM0 (fun b hb => .inr (HPW b hb)); (with_reducible refine (vals_same l Av (some ⟨b, o, none⟩) n cv cap _ w.heap.size _ HL.out (by omega) hrv (HR.out.keepMod (Nat.le_refl _) yy) (Nat.le_refl _) yy.size).mono ?_); rintro e w55 ⟨rfl, hn55⟩; have h55 := hX0.keep0 hn55; have hm55 : Mod P _ w55 := hn55.mono (fun _ x => x.elim); have hz55 := hm55.size; (try simp at hz55); (try (have ltw550 : w.heap.size < w55.heap.size := (by omega); have lcw550 := fun o => hm55.cell (b := w.heap.size) o (by first | omega | (simp; done) | (simp; omega)) (HPF); have lfw550 := fun o => hm55.frozen (b := w.heap.size) o (by first | omega | (simp; done) | (simp; omega)) (HPF))))
    | (go_at_call 13; (obtain ⟨-, -, -, -, -, -, hX0, hM0⟩ := (by with_reducible assumption : _ ∧ _ ∧ _ ∧ _ ∧ _ ∧ _ ∧ FloX P D B r (2 * n) cs (i : Int) _ ∧ Mod P w41 _)); (with_reducible refine (xtrace _ hX0).mono ?_); rintro e w56 ⟨At, ct, rfl, hw56, hmw56⟩; have hzw56 := hmw56.size; (try simp at hzw56); (try (have ltw560 : w.heap.size < w56.heap.size := (by omega); have lcw560 := fun o => hmw56.cell (b := w.heap.size) o (by first | omega | (simp; done) | (simp; omega)) (HPF); have lfw560 := fun o => hmw56.frozen (b := w.heap.size) o (by first | omega | (simp; done) | (simp; omega)) (HPF)))))
      obtain ⟨-, -, -, -, -, -, -, hM⟩ := (by with_reducible assumption : _ ∧ _ ∧ _ ∧ _ ∧ _ ∧ _ ∧ FloX P D B r (2 * n) cs (i : Int) _ ∧ Mod P w41 _)
      have yE : Mod nowhere w _ := y41.call hM (fun b hb => .inr (HPW b hb))
      go_wp2
      go_ret
      exact ⟨rfl, yE⟩
end Go.Proofs.Ytcfpgecchappoaa.mgr4
